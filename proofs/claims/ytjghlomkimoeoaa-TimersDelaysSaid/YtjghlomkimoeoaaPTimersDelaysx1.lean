-- Written by fprint.py (wip), by way of the printer's functions; where they are turned, by texts of mine.
import Derived.Test.YtjghlomkimoeoaaPTimersDelaysx0
namespace Go.Proofs.Ytjghlomkimoeoaa.PTimersDelays
open Go.RowKit Go.Proofs.YtjghlomkimoeoaaW.PrintWords Go.Proofs.YtjghlomkimoeoaaW.PrintLast Go.Proofs.YtjghlomkimoeoaaW.PrintMore
attribute [local go_sem] max2_int min2_int max_two min_two max_three min_three max_four min_four   -- for this text's walks alone
set_option linter.unusedVariables false
set_option linter.unusedSimpArgs false

/-! ### timers_Delay: function 14 -/
def timers_Delay.l0 : Nat → Int → Int → Option (Int)
  | 0, _, _ => none
  | k + 1, x0, x3 => if x0 > 1 then (if x3 < 40 then (timers_Delay.l0 k (wrap64 (x0 - 1)) (wrap64 (x3 * 2))) else (if x0 < 1 then (some 0) else (some (mn x3 40)))) else (if x0 < 1 then (some 0) else (some (mn x3 40)))
def timers_Delay.f (k : Nat) (a0 : Int) : Option (Int) := timers_Delay.l0 k a0 2
theorem timers_Delay.mono_l : ∀ k, (∀ y0 y1, LeO (timers_Delay.l0 k y0 y1) (timers_Delay.l0 (k + 1) y0 y1))
  | 0 => fun _ _ r h => by simp [timers_Delay.l0] at h
  | k + 1 => by
    have ih0 := timers_Delay.mono_l k
    · intro y0 y1
      unfold timers_Delay.l0
      repeat' first
      | (with_reducible exact ih0 _ _)
      | (with_reducible exact LeO.refl _)
      | (with_reducible exact LeO.none _)
      | (with_reducible refine LeO.ite ?_ ?_)
      | (with_reducible refine LeO.bind ?_ (fun _ => ?_))
      | exact ih0 _ _
      | exact LeO.none _
      | refine LeO.ite ?_ ?_
      | refine LeO.bind ?_ (fun _ => ?_)
theorem timers_Delay.mono : ∀ a0 k, LeO (timers_Delay.f k a0) (timers_Delay.f (k + 1) a0) := by
  intro a0 k
  have ih0 := timers_Delay.mono_l k
  unfold timers_Delay.f
  repeat' first
      | (with_reducible exact ih0 _ _)
      | (with_reducible exact LeO.refl _)
      | (with_reducible exact LeO.none _)
      | (with_reducible refine LeO.ite ?_ ?_)
      | (with_reducible refine LeO.bind ?_ (fun _ => ?_))
      | exact ih0 _ _
      | exact LeO.none _
      | refine LeO.ite ?_ ?_
      | refine LeO.bind ?_ (fun _ => ?_)
set_option maxHeartbeats 8000000 in
set_option maxRecDepth 100000 in
theorem timers_Delay.calls (k : Nat) (a0 : Int) (r : Int) (w : World) (h : timers_Delay.f k a0 = some r) :
    Calls Try.prog 14 #[.int .i64 a0] w fun e w' => e = .returned (.int .i64 r) ∧ Below w.heap.size w w' := by
  have HB := Aside0.mk (Below.refl w.heap.size w)
  have H : (timers_Delay.l0 k a0 2) = some r := h
  clear h
  have H' := Aside0.mk H
  clear H
  go_enter Try.func14, Try.ntmps14
  go_wp2
  go_loopg [0, 3] k (fun kq v0 v3 w' => ∃ (x0_1 : Int) (x3_1 : Int), v0 = .int .i64 x0_1 ∧ v3 = .int .i64 x3_1 ∧ Aside0 (timers_Delay.l0 kq x0_1 x3_1 = some r) ∧ Aside0 (kq ≤ k) ∧ Aside0 (Below w.heap.size w w'))
  case atStart => exact ⟨(a0), (2), (by first | rfl | (simp; done) | (simp [*]; done)), (by first | rfl | (simp; done) | (simp [*]; done)), H', ⟨Nat.le_refl _⟩, ⟨by repeat (first | (with_reducible first | exact HB.out | apply below_alloc | apply pw_below_drewN | apply below_drew1) | exact HB.out)⟩⟩
  case round =>
    clear H'
    try clear c1
    obtain ⟨x0_1, x3_1, rfl, rfl, HA, HK1, HB⟩ := hrel
    cases gk with
    | zero => exact absurd HA.out (by simp [timers_Delay.l0])
    | succ k1 =>
      have H := HA.out
      clear HA
      simp only [timers_Delay.l0] at H
      by_cases c2 : x0_1 > 1
      · rw [if_pos c2] at H
        have c2b0 : decide (1 < x0_1) = true := decide_eq_true c2
        clear c2
        by_cases c3 : x3_1 < 40
        · rw [if_pos c3] at H
          have c3b0 : decide (x3_1 < 40) = true := decide_eq_true c3
          clear c3
          have H' := Aside0.mk H
          clear H
          go_wp2
          go_roundg k1
          case measure => have := HK1.out; omega
          case rel => exact ⟨(wrap64 (x0_1 - 1)), (wrap64 (x3_1 * 2)), (by first | rfl | (simp; done) | (simp [*]; done)), (by first | rfl | (simp; done) | (simp [*]; done)), H', ⟨by have := HK1.out; omega⟩, ⟨by repeat (first | (with_reducible first | exact HB.out | apply below_alloc | apply pw_below_drewN | apply below_drew1) | exact HB.out)⟩⟩
        · rw [if_neg c3] at H
          have c3b0 : decide (x3_1 < 40) = false := decide_eq_false c3
          clear c3
          by_cases c4 : x0_1 < 1
          · rw [if_pos c4] at H
            have c4b0 : decide (x0_1 < 1) = true := decide_eq_true c4
            clear c4
            obtain rfl := Option.some.inj H
            go_wp2
            go_ret
            exact ⟨by first | rfl | (simp [errW_none, errW_some] <;> rfl) | (simp [*, errW_none, errW_some] <;> rfl), by repeat (first | (with_reducible first | exact HB.out | apply below_alloc | apply pw_below_drewN | apply below_drew1) | exact HB.out)⟩
          · rw [if_neg c4] at H
            have c4b0 : decide (x0_1 < 1) = false := decide_eq_false c4
            clear c4
            obtain ⟨ji5, hji5⟩ : ∃ j_ : Int, (mn x3_1 40) = j_ := ⟨_, rfl⟩
            replace H : (some ji5) = some r := by first | (rw [hji5] at H; exact H) | (simp only [hji5] at H ⊢; exact H)
            have hji5_ : (if 40 < x3_1 then 40 else x3_1) = ji5 := hji5
            obtain rfl := Option.some.inj H
            go_wp2
            go_ret
            exact ⟨by first | rfl | (simp [errW_none, errW_some] <;> rfl) | (simp only [← hji5]; first | rfl | (simp [errW_none, errW_some] <;> rfl)) | (simp [*, errW_none, errW_some] <;> rfl), by repeat (first | (with_reducible first | exact HB.out | apply below_alloc | apply pw_below_drewN | apply below_drew1) | exact HB.out)⟩
      · rw [if_neg c2] at H
        have c2b0 : decide (1 < x0_1) = false := decide_eq_false c2
        clear c2
        by_cases c6 : x0_1 < 1
        · rw [if_pos c6] at H
          have c6b0 : decide (x0_1 < 1) = true := decide_eq_true c6
          clear c6
          obtain rfl := Option.some.inj H
          go_wp2
          go_ret
          exact ⟨by first | rfl | (simp [errW_none, errW_some] <;> rfl) | (simp [*, errW_none, errW_some] <;> rfl), by repeat (first | (with_reducible first | exact HB.out | apply below_alloc | apply pw_below_drewN | apply below_drew1) | exact HB.out)⟩
        · rw [if_neg c6] at H
          have c6b0 : decide (x0_1 < 1) = false := decide_eq_false c6
          clear c6
          obtain ⟨ji7, hji7⟩ : ∃ j_ : Int, (mn x3_1 40) = j_ := ⟨_, rfl⟩
          replace H : (some ji7) = some r := by first | (rw [hji7] at H; exact H) | (simp only [hji7] at H ⊢; exact H)
          have hji7_ : (if 40 < x3_1 then 40 else x3_1) = ji7 := hji7
          obtain rfl := Option.some.inj H
          go_wp2
          go_ret
          exact ⟨by first | rfl | (simp [errW_none, errW_some] <;> rfl) | (simp only [← hji7]; first | rfl | (simp [errW_none, errW_some] <;> rfl)) | (simp [*, errW_none, errW_some] <;> rfl), by repeat (first | (with_reducible first | exact HB.out | apply below_alloc | apply pw_below_drewN | apply below_drew1) | exact HB.out)⟩

-- NOT PRINTED: function 61 (timers_New)

-- NOT PRINTED: function 62 (timers_Timers_Set)

-- NOT PRINTED: function 72 (timers_Timers_Len)

/-! ### tumbrellaw16_awake: function 15 -/
def tumbrellaw16_awake.f  : Option (Bool) := some (((([1] : List Int)).length : Int) == 1)
set_option maxHeartbeats 8000000 in
set_option maxRecDepth 100000 in
theorem awake16_new (w : World) : Calls Try.prog 61 #[] w fun e w' => e = .returned (.pointer (some ⟨w.heap.size, 0, none⟩)) ∧ w' = w.alloc (.cells #[.map none] 98) := by
  go_enter Try.func61, Try.ntmps61
  go_wp2
  go_ret
  exact ⟨rfl, rfl⟩
theorem awake16_law : Go.Maps.Keyed Try.prog 9 := Go.Maps.string_keyed Try.underlying9
set_option maxHeartbeats 8000000 in
set_option maxRecDepth 100000 in
theorem awake16_set (w : World) (b : Nat) (hb : w.heap[b]? = some (.cells #[.map none] 98 (0, 0))) : Calls Try.prog 62 #[.pointer (some ⟨b, 0, none⟩), .string ⟨#[97]⟩, .int .i64 5] w fun e w' => e = .returned (.tuple #[]) ∧ w'.heap[b]? = some (.cells #[.map (some w.heap.size)] 98 (0, 0)) ∧ w'.ownsMap (H := Unit) Try.prog 9 (plainElem Try.prog 2) w.heap.size (0 + 1) ((DataW.map []).put (.string [97]) (.lit (.int .i64 5))) ∧ (∀ base, base ≤ b → Below base w w') := by
  have hmm := @run_makeMap Try.prog
  have hmn := fun (W : World) => run_eql_map_nil (P := Try.prog) W 96 9 2 none Try.underlying96
  have c0 : w.cell? ⟨b, 0, none⟩ = some (.map none) := blk_cell hb 0
  have f0 := blk_frozen hb 0
  have hlt : b < w.heap.size := by
    rcases Nat.lt_or_ge b w.heap.size with h | h
    · exact h
    · rw [Array.getElem?_eq_none h] at hb; cases hb
  have hsz : (w.setCell ⟨b, 0, none⟩ (.map (some w.heap.size))).heap.size = w.heap.size := by simp
  have hown : ((w.setCell ⟨b, 0, none⟩ (.map (some w.heap.size))).alloc (.map #[] 0)).ownsMap (H := Unit) Try.prog 9 (plainElem Try.prog 2) w.heap.size 0 (.map []) := by
    have h_ := World.ownsMap_made (H := Unit) (w.setCell ⟨b, 0, none⟩ (.map (some w.heap.size))) Try.prog 9 (plainElem Try.prog 2)
    rwa [hsz] at h_
  have hkey : keyOf Try.prog 9 (.string ⟨#[97]⟩) = some (.string [97]) := Go.WideMaps.keyOf_string_mk Try.underlying9 (by decide)
  go_enter Try.func62, Try.ntmps62
  go_wp2_with (first
    | (at_mapUpdate; refine wpList_mapUpdate_own _ rfl _ _ _ 96 rfl 9 2 awake16_law Try.underlying96 _ w.heap.size 0 _ rfl hown (by unfold maxLen; omega) _ _ _ rfl rfl hkey _ [] (plainElem_int Try.underlying2 (by decide)) ?_; intro w1 hown1 hgrow1)
    | go_in)
  go_end0
  refine ⟨rfl, ?_, hown1, fun base hbase => ?_⟩
  · refine blk_grown (blk_alloc (blk_put (cs := #[.map none]) hb 0 _ rfl) _) hgrow1 ?_
    intro h_
    cases h_
    omega
  · have h0 : Below base w (w.setCell ⟨b, 0, none⟩ (.map (some w.heap.size))) := (Below.refl base w).setCell hbase _
    have h1 := h0.alloc (by rw [hsz]; omega) (.map #[] 0)
    exact h1.grown hgrow1 (by have := h1.size; omega) (fun j hj => by cases hj; omega)
set_option maxHeartbeats 8000000 in
set_option maxRecDepth 100000 in
theorem awake16_len (w : World) (b m n : Nat) (D : DataW Unit) (hb : w.heap[b]? = some (.cells #[.map (some m)] 98 (0, 0))) (hown : w.ownsMap Try.prog 9 (plainElem Try.prog 2) m n D) : Calls Try.prog 72 #[.pointer (some ⟨b, 0, none⟩)] w fun e w' => e = .returned (.int .i64 (Go.Maps.size D)) ∧ w' = w := by
  have c0 : w.cell? ⟨b, 0, none⟩ = some (.map (some m)) := blk_cell hb 0
  have f0 := blk_frozen hb 0
  have hlen := hown.len Try.underlying96 3
  go_enter Try.func72, Try.ntmps72
  go_wp2
  go_ret
  exact ⟨rfl, rfl⟩
set_option maxHeartbeats 8000000 in
set_option maxRecDepth 100000 in
theorem tumbrellaw16_awake.calls  (r : Bool) (w : World) (h : tumbrellaw16_awake.f  = some r) :
    Calls Try.prog 15 #[] w fun e w' => e = .returned (.bool r) ∧ Below w.heap.size w w' := by
  obtain rfl : r = true := (Option.some.inj h).symm
  have HD : timers_Delay.f 3 2 = some 4 := by decide +kernel
  have hb0 : (w.alloc (.cells #[.map none] 98)).heap[w.heap.size]? = some (.cells #[.map none] 98 (0, 0)) := Array.getElem?_push_size
  go_enter Try.func15, Try.ntmps15
  go_wp2_with (first
    | (go_at_call 61; (with_reducible refine (awake16_new _).mono ?_); rintro e w' ⟨rfl, rfl⟩)
    | (go_at_call 62; (with_reducible refine (awake16_set _ _ hb0).mono ?_); rintro e w1 ⟨rfl, hb1, hown1, hbel1⟩)
    | (go_at_call 72; (with_reducible refine (awake16_len _ _ _ _ _ hb1 hown1).mono ?_); rintro e w2 ⟨rfl, rfl⟩)
    | (go_at_call 14; (with_reducible refine (timers_Delay.calls 3 2 4 _ HD).mono ?_); rintro e w3 ⟨rfl, hbel3⟩)
    | go_in)
  · go_ret
    have hb4 : Below w.heap.size w w2 := by
      have h1 := (Below.refl w.heap.size w).alloc (Nat.le_refl _) (.cells #[.map none] 98)
      exact h1.trans (hbel1 _ (Nat.le_refl _))
    exact ⟨rfl, below_step hb4 hbel3⟩

/-! ### tumbrelref16_Delay: function 16 -/
def tumbrelref16_Delay.l0 : Nat → Int → Int → Int → Option (Int)
  | 0, _, _, _ => none
  | k + 1, x0, x3, x4 => if x4 < x0 then (if x3 < 40 then (tumbrelref16_Delay.l0 k x0 (mn (wrap64 (2 * x3)) 40) (wrap64 (x4 + 1))) else (some x3)) else (some x3)
def tumbrelref16_Delay.f (k : Nat) (a0 : Int) : Option (Int) := if a0 < 1 then (some 0) else (tumbrelref16_Delay.l0 k a0 2 1)
theorem tumbrelref16_Delay.mono_l : ∀ k, (∀ y0 y1 y2, LeO (tumbrelref16_Delay.l0 k y0 y1 y2) (tumbrelref16_Delay.l0 (k + 1) y0 y1 y2))
  | 0 => fun _ _ _ r h => by simp [tumbrelref16_Delay.l0] at h
  | k + 1 => by
    have ih0 := tumbrelref16_Delay.mono_l k
    · intro y0 y1 y2
      unfold tumbrelref16_Delay.l0
      repeat' first
      | (with_reducible exact ih0 _ _ _)
      | (with_reducible exact LeO.refl _)
      | (with_reducible exact LeO.none _)
      | (with_reducible refine LeO.ite ?_ ?_)
      | (with_reducible refine LeO.bind ?_ (fun _ => ?_))
      | exact ih0 _ _ _
      | exact LeO.none _
      | refine LeO.ite ?_ ?_
      | refine LeO.bind ?_ (fun _ => ?_)
theorem tumbrelref16_Delay.mono : ∀ a0 k, LeO (tumbrelref16_Delay.f k a0) (tumbrelref16_Delay.f (k + 1) a0) := by
  intro a0 k
  have ih0 := tumbrelref16_Delay.mono_l k
  unfold tumbrelref16_Delay.f
  repeat' first
      | (with_reducible exact ih0 _ _ _)
      | (with_reducible exact LeO.refl _)
      | (with_reducible exact LeO.none _)
      | (with_reducible refine LeO.ite ?_ ?_)
      | (with_reducible refine LeO.bind ?_ (fun _ => ?_))
      | exact ih0 _ _ _
      | exact LeO.none _
      | refine LeO.ite ?_ ?_
      | refine LeO.bind ?_ (fun _ => ?_)
set_option maxHeartbeats 8000000 in
set_option maxRecDepth 100000 in
theorem tumbrelref16_Delay.calls (k : Nat) (a0 : Int) (r : Int) (w : World) (h : tumbrelref16_Delay.f k a0 = some r) :
    Calls Try.prog 16 #[.int .i64 a0] w fun e w' => e = .returned (.int .i64 r) ∧ Below w.heap.size w w' := by
  have HB := Aside0.mk (Below.refl w.heap.size w)
  have H : (if a0 < 1 then (some 0) else (tumbrelref16_Delay.l0 k a0 2 1)) = some r := h
  clear h
  by_cases c2 : a0 < 1
  · rw [if_pos c2] at H
    have c2b0 : decide (a0 < 1) = true := decide_eq_true c2
    clear c2
    obtain rfl := Option.some.inj H
    go_enter Try.func16, Try.ntmps16
    go_wp2
    go_ret
    exact ⟨by first | rfl | (simp [errW_none, errW_some] <;> rfl) | (simp [*, errW_none, errW_some] <;> rfl), by repeat (first | (with_reducible first | exact HB.out | apply below_alloc | apply pw_below_drewN | apply below_drew1) | exact HB.out)⟩
  · rw [if_neg c2] at H
    have c2b0 : decide (a0 < 1) = false := decide_eq_false c2
    clear c2
    have H' := Aside0.mk H
    clear H
    go_enter Try.func16, Try.ntmps16
    go_wp2
    go_loopg [3, 4] k (fun kq v3 v4 w' => ∃ (x3_1 : Int) (x4_1 : Int), v3 = .int .i64 x3_1 ∧ v4 = .int .i64 x4_1 ∧ Aside0 (tumbrelref16_Delay.l0 kq a0 x3_1 x4_1 = some r) ∧ Aside0 (kq ≤ k) ∧ Aside0 (Below w.heap.size w w'))
    case atStart => exact ⟨(2), (1), (by first | rfl | (simp; done) | (simp [*]; done)), (by first | rfl | (simp; done) | (simp [*]; done)), H', ⟨Nat.le_refl _⟩, ⟨by repeat (first | (with_reducible first | exact HB.out | apply below_alloc | apply pw_below_drewN | apply below_drew1) | exact HB.out)⟩⟩
    case round =>
      clear H'
      try clear c1
      try clear c2
      try clear c2b0
      try clear p2
      obtain ⟨x3_1, x4_1, rfl, rfl, HA, HK1, HB⟩ := hrel
      cases gk with
      | zero => exact absurd HA.out (by simp [tumbrelref16_Delay.l0])
      | succ k1 =>
        have H := HA.out
        clear HA
        simp only [tumbrelref16_Delay.l0] at H
        by_cases c3 : x4_1 < a0
        · rw [if_pos c3] at H
          have c3b0 : decide (x4_1 < a0) = true := decide_eq_true c3
          clear c3
          by_cases c4 : x3_1 < 40
          · rw [if_pos c4] at H
            have c4b0 : decide (x3_1 < 40) = true := decide_eq_true c4
            clear c4
            obtain ⟨ji5, hji5⟩ : ∃ j_ : Int, (mn (wrap64 (2 * x3_1)) 40) = j_ := ⟨_, rfl⟩
            replace H : (tumbrelref16_Delay.l0 k1 a0 ji5 (wrap64 (x4_1 + 1))) = some r := by first | (rw [hji5] at H; exact H) | (simp only [hji5] at H ⊢; exact H)
            have hji5_ : (if 40 < (wrap64 (2 * x3_1)) then 40 else (wrap64 (2 * x3_1))) = ji5 := hji5
            have H' := Aside0.mk H
            clear H
            go_wp2
            go_roundg k1
            case measure => have := HK1.out; omega
            case rel => exact ⟨(ji5), (wrap64 (x4_1 + 1)), (by first | rfl | (simp; done) | (simp only [← hji5] <;> (first | rfl | simp)) | (simp [*]; done)), (by first | rfl | (simp; done) | (simp [*]; done)), H', ⟨by have := HK1.out; omega⟩, ⟨by repeat (first | (with_reducible first | exact HB.out | apply below_alloc | apply pw_below_drewN | apply below_drew1) | exact HB.out)⟩⟩
          · rw [if_neg c4] at H
            have c4b0 : decide (x3_1 < 40) = false := decide_eq_false c4
            clear c4
            obtain rfl := Option.some.inj H
            go_wp2
            go_ret
            exact ⟨by first | rfl | (simp [errW_none, errW_some] <;> rfl) | (simp [*, errW_none, errW_some] <;> rfl), by repeat (first | (with_reducible first | exact HB.out | apply below_alloc | apply pw_below_drewN | apply below_drew1) | exact HB.out)⟩
        · rw [if_neg c3] at H
          have c3b0 : decide (x4_1 < a0) = false := decide_eq_false c3
          clear c3
          obtain rfl := Option.some.inj H
          go_wp2
          go_ret
          exact ⟨by first | rfl | (simp [errW_none, errW_some] <;> rfl) | (simp [*, errW_none, errW_some] <;> rfl), by repeat (first | (with_reducible first | exact HB.out | apply below_alloc | apply pw_below_drewN | apply below_drew1) | exact HB.out)⟩

/-! ### tumbrellaw16_TimersDelays: function 3 -/
def tumbrellaw16_TimersDelays.f (k : Nat) (a0 : Int) : Option (Bool) := (timers_Delay.f k a0).bind fun t104 => ((tumbrellaw16_awake.f).bind fun t105 => (if t105 = true then ((tumbrelref16_Delay.f k a0).bind fun t106 => (if t104 = t106 then (if t104 ≥ 0 then (if t104 ≤ 40 then ((timers_Delay.f k (wrap64 (Int.tdiv a0 2))).bind fun t107 => ((timers_Delay.f k 0).bind fun t108 => (some (decide (t107 ≤ (mx t104 t108)))))) else (some false)) else (some false)) else (some false))) else (some false)))
theorem tumbrellaw16_TimersDelays.mono : ∀ a0 k, LeO (tumbrellaw16_TimersDelays.f k a0) (tumbrellaw16_TimersDelays.f (k + 1) a0) := by
  intro a0 k
  unfold tumbrellaw16_TimersDelays.f
  repeat' first
      | (with_reducible exact timers_Delay.mono _ _)
      | (with_reducible exact tumbrelref16_Delay.mono _ _)
      | (with_reducible exact LeO.refl _)
      | (with_reducible exact LeO.none _)
      | (with_reducible refine LeO.ite ?_ ?_)
      | (with_reducible refine LeO.bind ?_ (fun _ => ?_))
      | exact timers_Delay.mono _ _
      | exact tumbrelref16_Delay.mono _ _
      | exact LeO.none _
      | refine LeO.ite ?_ ?_
      | refine LeO.bind ?_ (fun _ => ?_)
set_option maxHeartbeats 8000000 in
set_option maxRecDepth 100000 in
theorem tumbrellaw16_TimersDelays.calls (k : Nat) (a0 : Int) (r : Bool) (w : World) (h : tumbrellaw16_TimersDelays.f k a0 = some r) :
    Calls Try.prog 3 #[.int .i64 a0] w fun e w' => e = .returned (.bool r) ∧ Below w.heap.size w w' := by
  have HB := Aside0.mk (Below.refl w.heap.size w)
  have H : ((timers_Delay.f k a0).bind fun t104 => ((tumbrellaw16_awake.f).bind fun t105 => (if t105 = true then ((tumbrelref16_Delay.f k a0).bind fun t106 => (if t104 = t106 then (if t104 ≥ 0 then (if t104 ≤ 40 then ((timers_Delay.f k (wrap64 (Int.tdiv a0 2))).bind fun t107 => ((timers_Delay.f k 0).bind fun t108 => (some (decide (t107 ≤ (mx t104 t108)))))) else (some false)) else (some false)) else (some false))) else (some false)))) = some r := h
  clear h
  replace H := Option.bind_eq_some_iff.mp H
  obtain ⟨t104, A20, H⟩ := H
  replace H : ((tumbrellaw16_awake.f).bind fun t105 => (if t105 = true then ((tumbrelref16_Delay.f k a0).bind fun t106 => (if t104 = t106 then (if t104 ≥ 0 then (if t104 ≤ 40 then ((timers_Delay.f k (wrap64 (Int.tdiv a0 2))).bind fun t107 => ((timers_Delay.f k 0).bind fun t108 => (some (decide (t107 ≤ (mx t104 t108)))))) else (some false)) else (some false)) else (some false))) else (some false))) = some r := H
  have A2 := Aside0.mk A20
  clear A20
  replace H := Option.bind_eq_some_iff.mp H
  obtain ⟨t105, A30, H⟩ := H
  replace H : (if t105 = true then ((tumbrelref16_Delay.f k a0).bind fun t106 => (if t104 = t106 then (if t104 ≥ 0 then (if t104 ≤ 40 then ((timers_Delay.f k (wrap64 (Int.tdiv a0 2))).bind fun t107 => ((timers_Delay.f k 0).bind fun t108 => (some (decide (t107 ≤ (mx t104 t108)))))) else (some false)) else (some false)) else (some false))) else (some false)) = some r := H
  have A3 := Aside0.mk A30
  clear A30
  by_cases c4 : t105 = true
  · subst c4
    have H1 : ((tumbrelref16_Delay.f k a0).bind fun t106 => (if t104 = t106 then (if t104 ≥ 0 then (if t104 ≤ 40 then ((timers_Delay.f k (wrap64 (Int.tdiv a0 2))).bind fun t107 => ((timers_Delay.f k 0).bind fun t108 => (some (decide (t107 ≤ (mx t104 t108)))))) else (some false)) else (some false)) else (some false))) = some r := by rw [if_pos rfl] at H; exact H
    clear H
    have H := H1
    clear H1
    replace H := Option.bind_eq_some_iff.mp H
    obtain ⟨t106, A50, H⟩ := H
    replace H : (if t104 = t106 then (if t104 ≥ 0 then (if t104 ≤ 40 then ((timers_Delay.f k (wrap64 (Int.tdiv a0 2))).bind fun t107 => ((timers_Delay.f k 0).bind fun t108 => (some (decide (t107 ≤ (mx t104 t108)))))) else (some false)) else (some false)) else (some false)) = some r := H
    have A5 := Aside0.mk A50
    clear A50
    by_cases c6 : t104 = t106
    · rw [if_pos c6] at H
      have c6b0 : (t104 == t106) = true := beq_iff_eq.mpr c6
      have c6b1 : (t104 != t106) = false := bne_eq_false_iff_eq.mpr c6
      clear c6
      by_cases c7 : t104 ≥ 0
      · rw [if_pos c7] at H
        have c7b0 : decide (0 ≤ t104) = true := decide_eq_true c7
        clear c7
        by_cases c8 : t104 ≤ 40
        · rw [if_pos c8] at H
          have c8b0 : decide (t104 ≤ 40) = true := decide_eq_true c8
          clear c8
          replace H := Option.bind_eq_some_iff.mp H
          obtain ⟨t107, A90, H⟩ := H
          replace H : ((timers_Delay.f k 0).bind fun t108 => (some (decide (t107 ≤ (mx t104 t108))))) = some r := H
          have A9 := Aside0.mk A90
          clear A90
          replace H := Option.bind_eq_some_iff.mp H
          obtain ⟨t108, A100, H⟩ := H
          replace H : (some (decide (t107 ≤ (mx t104 t108)))) = some r := H
          have A10 := Aside0.mk A100
          clear A100
          obtain ⟨ji11, hji11⟩ : ∃ j_ : Int, (mx t104 t108) = j_ := ⟨_, rfl⟩
          replace H : (some (decide (t107 ≤ (ji11)))) = some r := by first | (rw [hji11] at H; exact H) | (simp only [hji11] at H ⊢; exact H)
          (try rw [hji11] at A2)
          (try rw [hji11] at A3)
          (try rw [hji11] at A5)
          (try rw [hji11] at A9)
          (try rw [hji11] at A10)
          have hji11_ : (if t104 < t108 then t108 else t104) = ji11 := hji11
          obtain rfl := Option.some.inj H
          go_enter Try.func3, Try.ntmps3
          go_wp2_with (first | ((with_reducible refine gate_callee (f := 14) rfl ?_); refine goesL_ (some 5) rfl rfl Try.func14 (by kernel_rfl) rfl #[.int .i64 a0] rfl (by (try simp only [List.map_toArray, List.map_cons, List.map_nil]); first | done | rfl | (simp only [List.length_drop, List.length_take]; rfl)) ?_; (with_reducible refine (timers_Delay.calls k a0 t104 _ A2.out).mono ?_); rintro e w12 ⟨rfl, hb⟩; refine ⟨_, rfl, ?_⟩; have n0_ := Aside0.mk (below_step (by repeat (first | (with_reducible first | exact HB.out | apply below_alloc | apply pw_below_drewN | apply below_drew1) | exact HB.out)) hb); clear HB; have HB := n0_; clear n0_; (try clear hb); (try clear hb2); (try clear hk); (try clear hi)) | ((with_reducible refine gate_callee (f := 15) rfl ?_); refine goesL_ (some 6) rfl rfl Try.func15 (by kernel_rfl) rfl #[] rfl (by (try simp only [List.map_toArray, List.map_cons, List.map_nil]); first | done | rfl | (simp only [List.length_drop, List.length_take]; rfl)) ?_; (with_reducible refine (tumbrellaw16_awake.calls  true _ A3.out).mono ?_); rintro e w13 ⟨rfl, hb⟩; refine ⟨_, rfl, ?_⟩; have n0_ := Aside0.mk (below_step (by repeat (first | (with_reducible first | exact HB.out | apply below_alloc | apply pw_below_drewN | apply below_drew1) | exact HB.out)) hb); clear HB; have HB := n0_; clear n0_; (try clear hb); (try clear hb2); (try clear hk); (try clear hi)) | (go_at_call 16; (with_reducible refine (tumbrelref16_Delay.calls k a0 t106 _ A5.out).mono ?_); rintro e w14 ⟨rfl, hb⟩; have n0_ := Aside0.mk (below_step (by repeat (first | (with_reducible first | exact HB.out | apply below_alloc | apply pw_below_drewN | apply below_drew1) | exact HB.out)) hb); clear HB; have HB := n0_; clear n0_; (try clear hb); (try clear hb2); (try clear hk); (try clear hi)) | (go_at_call 14; (with_reducible refine (timers_Delay.calls k (wrap64 (Int.tdiv a0 2)) t107 _ A9.out).mono ?_); rintro e w15 ⟨rfl, hb⟩; have n0_ := Aside0.mk (below_step (by repeat (first | (with_reducible first | exact HB.out | apply below_alloc | apply pw_below_drewN | apply below_drew1) | exact HB.out)) hb); clear HB; have HB := n0_; clear n0_; (try clear hb); (try clear hb2); (try clear hk); (try clear hi)) | (go_at_call 14; (with_reducible refine (timers_Delay.calls k 0 t108 _ A10.out).mono ?_); rintro e w16 ⟨rfl, hb⟩; have n0_ := Aside0.mk (below_step (by repeat (first | (with_reducible first | exact HB.out | apply below_alloc | apply pw_below_drewN | apply below_drew1) | exact HB.out)) hb); clear HB; have HB := n0_; clear n0_; (try clear hb); (try clear hb2); (try clear hk); (try clear hi)))
          go_ret
          exact ⟨by first | rfl | (simp [errW_none, errW_some] <;> rfl) | (simp only [← hji11]; first | rfl | (simp [errW_none, errW_some] <;> rfl)) | (simp [*, errW_none, errW_some] <;> rfl), by repeat (first | (with_reducible first | exact HB.out | apply below_alloc | apply pw_below_drewN | apply below_drew1) | exact HB.out)⟩
        · rw [if_neg c8] at H
          have c8b0 : decide (t104 ≤ 40) = false := decide_eq_false c8
          clear c8
          obtain rfl := Option.some.inj H
          go_enter Try.func3, Try.ntmps3
          go_wp2_with (first | ((with_reducible refine gate_callee (f := 14) rfl ?_); refine goesL_ (some 5) rfl rfl Try.func14 (by kernel_rfl) rfl #[.int .i64 a0] rfl (by (try simp only [List.map_toArray, List.map_cons, List.map_nil]); first | done | rfl | (simp only [List.length_drop, List.length_take]; rfl)) ?_; (with_reducible refine (timers_Delay.calls k a0 t104 _ A2.out).mono ?_); rintro e w17 ⟨rfl, hb⟩; refine ⟨_, rfl, ?_⟩; have n0_ := Aside0.mk (below_step (by repeat (first | (with_reducible first | exact HB.out | apply below_alloc | apply pw_below_drewN | apply below_drew1) | exact HB.out)) hb); clear HB; have HB := n0_; clear n0_; (try clear hb); (try clear hb2); (try clear hk); (try clear hi)) | ((with_reducible refine gate_callee (f := 15) rfl ?_); refine goesL_ (some 6) rfl rfl Try.func15 (by kernel_rfl) rfl #[] rfl (by (try simp only [List.map_toArray, List.map_cons, List.map_nil]); first | done | rfl | (simp only [List.length_drop, List.length_take]; rfl)) ?_; (with_reducible refine (tumbrellaw16_awake.calls  true _ A3.out).mono ?_); rintro e w18 ⟨rfl, hb⟩; refine ⟨_, rfl, ?_⟩; have n0_ := Aside0.mk (below_step (by repeat (first | (with_reducible first | exact HB.out | apply below_alloc | apply pw_below_drewN | apply below_drew1) | exact HB.out)) hb); clear HB; have HB := n0_; clear n0_; (try clear hb); (try clear hb2); (try clear hk); (try clear hi)) | (go_at_call 16; (with_reducible refine (tumbrelref16_Delay.calls k a0 t106 _ A5.out).mono ?_); rintro e w19 ⟨rfl, hb⟩; have n0_ := Aside0.mk (below_step (by repeat (first | (with_reducible first | exact HB.out | apply below_alloc | apply pw_below_drewN | apply below_drew1) | exact HB.out)) hb); clear HB; have HB := n0_; clear n0_; (try clear hb); (try clear hb2); (try clear hk); (try clear hi)))
          go_ret
          exact ⟨by first | rfl | (simp [errW_none, errW_some] <;> rfl) | (simp [*, errW_none, errW_some] <;> rfl), by repeat (first | (with_reducible first | exact HB.out | apply below_alloc | apply pw_below_drewN | apply below_drew1) | exact HB.out)⟩
      · rw [if_neg c7] at H
        have c7b0 : decide (0 ≤ t104) = false := decide_eq_false c7
        clear c7
        obtain rfl := Option.some.inj H
        go_enter Try.func3, Try.ntmps3
        go_wp2_with (first | ((with_reducible refine gate_callee (f := 14) rfl ?_); refine goesL_ (some 5) rfl rfl Try.func14 (by kernel_rfl) rfl #[.int .i64 a0] rfl (by (try simp only [List.map_toArray, List.map_cons, List.map_nil]); first | done | rfl | (simp only [List.length_drop, List.length_take]; rfl)) ?_; (with_reducible refine (timers_Delay.calls k a0 t104 _ A2.out).mono ?_); rintro e w20 ⟨rfl, hb⟩; refine ⟨_, rfl, ?_⟩; have n0_ := Aside0.mk (below_step (by repeat (first | (with_reducible first | exact HB.out | apply below_alloc | apply pw_below_drewN | apply below_drew1) | exact HB.out)) hb); clear HB; have HB := n0_; clear n0_; (try clear hb); (try clear hb2); (try clear hk); (try clear hi)) | ((with_reducible refine gate_callee (f := 15) rfl ?_); refine goesL_ (some 6) rfl rfl Try.func15 (by kernel_rfl) rfl #[] rfl (by (try simp only [List.map_toArray, List.map_cons, List.map_nil]); first | done | rfl | (simp only [List.length_drop, List.length_take]; rfl)) ?_; (with_reducible refine (tumbrellaw16_awake.calls  true _ A3.out).mono ?_); rintro e w21 ⟨rfl, hb⟩; refine ⟨_, rfl, ?_⟩; have n0_ := Aside0.mk (below_step (by repeat (first | (with_reducible first | exact HB.out | apply below_alloc | apply pw_below_drewN | apply below_drew1) | exact HB.out)) hb); clear HB; have HB := n0_; clear n0_; (try clear hb); (try clear hb2); (try clear hk); (try clear hi)) | (go_at_call 16; (with_reducible refine (tumbrelref16_Delay.calls k a0 t106 _ A5.out).mono ?_); rintro e w22 ⟨rfl, hb⟩; have n0_ := Aside0.mk (below_step (by repeat (first | (with_reducible first | exact HB.out | apply below_alloc | apply pw_below_drewN | apply below_drew1) | exact HB.out)) hb); clear HB; have HB := n0_; clear n0_; (try clear hb); (try clear hb2); (try clear hk); (try clear hi)))
        go_ret
        exact ⟨by first | rfl | (simp [errW_none, errW_some] <;> rfl) | (simp [*, errW_none, errW_some] <;> rfl), by repeat (first | (with_reducible first | exact HB.out | apply below_alloc | apply pw_below_drewN | apply below_drew1) | exact HB.out)⟩
    · rw [if_neg c6] at H
      have c6b0 : (t104 == t106) = false := beq_eq_false_iff_ne.mpr c6
      have c6b1 : (t104 != t106) = true := bne_iff_ne.mpr c6
      obtain rfl := Option.some.inj H
      go_enter Try.func3, Try.ntmps3
      go_wp2_with (first | ((with_reducible refine gate_callee (f := 14) rfl ?_); refine goesL_ (some 5) rfl rfl Try.func14 (by kernel_rfl) rfl #[.int .i64 a0] rfl (by (try simp only [List.map_toArray, List.map_cons, List.map_nil]); first | done | rfl | (simp only [List.length_drop, List.length_take]; rfl)) ?_; (with_reducible refine (timers_Delay.calls k a0 t104 _ A2.out).mono ?_); rintro e w23 ⟨rfl, hb⟩; refine ⟨_, rfl, ?_⟩; have n0_ := Aside0.mk (below_step (by repeat (first | (with_reducible first | exact HB.out | apply below_alloc | apply pw_below_drewN | apply below_drew1) | exact HB.out)) hb); clear HB; have HB := n0_; clear n0_; (try clear hb); (try clear hb2); (try clear hk); (try clear hi)) | ((with_reducible refine gate_callee (f := 15) rfl ?_); refine goesL_ (some 6) rfl rfl Try.func15 (by kernel_rfl) rfl #[] rfl (by (try simp only [List.map_toArray, List.map_cons, List.map_nil]); first | done | rfl | (simp only [List.length_drop, List.length_take]; rfl)) ?_; (with_reducible refine (tumbrellaw16_awake.calls  true _ A3.out).mono ?_); rintro e w24 ⟨rfl, hb⟩; refine ⟨_, rfl, ?_⟩; have n0_ := Aside0.mk (below_step (by repeat (first | (with_reducible first | exact HB.out | apply below_alloc | apply pw_below_drewN | apply below_drew1) | exact HB.out)) hb); clear HB; have HB := n0_; clear n0_; (try clear hb); (try clear hb2); (try clear hk); (try clear hi)) | (go_at_call 16; (with_reducible refine (tumbrelref16_Delay.calls k a0 t106 _ A5.out).mono ?_); rintro e w25 ⟨rfl, hb⟩; have n0_ := Aside0.mk (below_step (by repeat (first | (with_reducible first | exact HB.out | apply below_alloc | apply pw_below_drewN | apply below_drew1) | exact HB.out)) hb); clear HB; have HB := n0_; clear n0_; (try clear hb); (try clear hb2); (try clear hk); (try clear hi)))
      go_ret
      exact ⟨by first | rfl | (simp [errW_none, errW_some] <;> rfl) | (simp [*, errW_none, errW_some] <;> rfl), by repeat (first | (with_reducible first | exact HB.out | apply below_alloc | apply pw_below_drewN | apply below_drew1) | exact HB.out)⟩
  · replace c4 := Bool.eq_false_iff.mpr c4
    subst c4
    have H1 : (some false) = some r := by rw [if_neg (show ¬ (false = true) by decide)] at H; exact H
    clear H
    have H := H1
    clear H1
    obtain rfl := Option.some.inj H
    go_enter Try.func3, Try.ntmps3
    go_wp2_with (first | ((with_reducible refine gate_callee (f := 14) rfl ?_); refine goesL_ (some 5) rfl rfl Try.func14 (by kernel_rfl) rfl #[.int .i64 a0] rfl (by (try simp only [List.map_toArray, List.map_cons, List.map_nil]); first | done | rfl | (simp only [List.length_drop, List.length_take]; rfl)) ?_; (with_reducible refine (timers_Delay.calls k a0 t104 _ A2.out).mono ?_); rintro e w26 ⟨rfl, hb⟩; refine ⟨_, rfl, ?_⟩; have n0_ := Aside0.mk (below_step (by repeat (first | (with_reducible first | exact HB.out | apply below_alloc | apply pw_below_drewN | apply below_drew1) | exact HB.out)) hb); clear HB; have HB := n0_; clear n0_; (try clear hb); (try clear hb2); (try clear hk); (try clear hi)) | ((with_reducible refine gate_callee (f := 15) rfl ?_); refine goesL_ (some 6) rfl rfl Try.func15 (by kernel_rfl) rfl #[] rfl (by (try simp only [List.map_toArray, List.map_cons, List.map_nil]); first | done | rfl | (simp only [List.length_drop, List.length_take]; rfl)) ?_; (with_reducible refine (tumbrellaw16_awake.calls  false _ A3.out).mono ?_); rintro e w27 ⟨rfl, hb⟩; refine ⟨_, rfl, ?_⟩; have n0_ := Aside0.mk (below_step (by repeat (first | (with_reducible first | exact HB.out | apply below_alloc | apply pw_below_drewN | apply below_drew1) | exact HB.out)) hb); clear HB; have HB := n0_; clear n0_; (try clear hb); (try clear hb2); (try clear hk); (try clear hi)))
    go_ret
    exact ⟨by first | rfl | (simp [errW_none, errW_some] <;> rfl) | (simp [*, errW_none, errW_some] <;> rfl), by repeat (first | (with_reducible first | exact HB.out | apply below_alloc | apply pw_below_drewN | apply below_drew1) | exact HB.out)⟩

/-- THE ONE PURE STATEMENT of tumbrellaw16_TimersDelays: yours. -/
def tumbrellaw16_TimersDelays.Pure : Prop := ∀ (a0 : Int), (Lit.int .i64 a0).wf = true → ∃ k, tumbrellaw16_TimersDelays.f k a0 = some true
theorem tumbrellaw16_TimersDelays.walk (P : tumbrellaw16_TimersDelays.Pure) (a0 : Int) (w : World) (w0 : (Lit.int .i64 a0).wf = true) :
    Calls Try.prog 3 #[.int .i64 a0] w fun e w' => e = .returned (.bool true) ∧ Below w.heap.size w w' := by
  obtain ⟨k, h⟩ := P a0 w0
  refine (tumbrellaw16_TimersDelays.calls k a0 true w h).mono ?_
  rintro e w' ⟨rfl, hd⟩
  exact ⟨rfl, hd⟩

end Go.Proofs.Ytjghlomkimoeoaa.PTimersDelays
