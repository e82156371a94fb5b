-- Written by fprint.py (wip), by way of the printer's functions; where they are turned, by texts of mine.
import Derived.Test.YtjghlomkimoeoaaPTimersNilx0
namespace Go.Proofs.Ytjghlomkimoeoaa.PTimersNil
open Go.RowKit Go.Proofs.YtjghlomkimoeoaaW.PrintWords Go.Proofs.YtjghlomkimoeoaaW.PrintLast Go.Proofs.YtjghlomkimoeoaaW.PrintMore
attribute [local go_sem] max2_int min2_int max_two min_two max_three min_three max_four min_four   -- for this text's walks alone
set_option linter.unusedVariables false
set_option linter.unusedSimpArgs false

/-! ### timers_Delay: function 14 -/
def timers_Delay.l0 : Nat → Int → Int → Option (Int)
  | 0, _, _ => none
  | k + 1, x0, x3 => if x0 > 1 then (if x3 < 40 then (timers_Delay.l0 k (wrap64 (x0 - 1)) (wrap64 (x3 * 2))) else (if x0 < 1 then (some 0) else (some (mn x3 40)))) else (if x0 < 1 then (some 0) else (some (mn x3 40)))
def timers_Delay.f (k : Nat) (a0 : Int) : Option (Int) := timers_Delay.l0 k a0 2
theorem timers_Delay.mono_l : ∀ k, (∀ y0 y1, LeO (timers_Delay.l0 k y0 y1) (timers_Delay.l0 (k + 1) y0 y1))
  | 0 => fun _ _ r h => by simp [timers_Delay.l0] at h
  | k + 1 => by
    have ih0 := timers_Delay.mono_l k
    · intro y0 y1
      unfold timers_Delay.l0
      repeat' first
      | (with_reducible exact ih0 _ _)
      | (with_reducible exact LeO.refl _)
      | (with_reducible exact LeO.none _)
      | (with_reducible refine LeO.ite ?_ ?_)
      | (with_reducible refine LeO.bind ?_ (fun _ => ?_))
      | exact ih0 _ _
      | exact LeO.none _
      | refine LeO.ite ?_ ?_
      | refine LeO.bind ?_ (fun _ => ?_)
theorem timers_Delay.mono : ∀ a0 k, LeO (timers_Delay.f k a0) (timers_Delay.f (k + 1) a0) := by
  intro a0 k
  have ih0 := timers_Delay.mono_l k
  unfold timers_Delay.f
  repeat' first
      | (with_reducible exact ih0 _ _)
      | (with_reducible exact LeO.refl _)
      | (with_reducible exact LeO.none _)
      | (with_reducible refine LeO.ite ?_ ?_)
      | (with_reducible refine LeO.bind ?_ (fun _ => ?_))
      | exact ih0 _ _
      | exact LeO.none _
      | refine LeO.ite ?_ ?_
      | refine LeO.bind ?_ (fun _ => ?_)
set_option maxHeartbeats 8000000 in
set_option maxRecDepth 100000 in
theorem timers_Delay.calls (k : Nat) (a0 : Int) (r : Int) (w : World) (h : timers_Delay.f k a0 = some r) :
    Calls Try.prog 14 #[.int .i64 a0] w fun e w' => e = .returned (.int .i64 r) ∧ Below w.heap.size w w' := by
  have HB := Aside0.mk (Below.refl w.heap.size w)
  have H : (timers_Delay.l0 k a0 2) = some r := h
  clear h
  have H' := Aside0.mk H
  clear H
  go_enter Try.func14, Try.ntmps14
  go_wp2
  go_loopg [0, 3] k (fun kq v0 v3 w' => ∃ (x0_1 : Int) (x3_1 : Int), v0 = .int .i64 x0_1 ∧ v3 = .int .i64 x3_1 ∧ Aside0 (timers_Delay.l0 kq x0_1 x3_1 = some r) ∧ Aside0 (kq ≤ k) ∧ Aside0 (Below w.heap.size w w'))
  case atStart => exact ⟨(a0), (2), (by first | rfl | (simp; done) | (simp [*]; done)), (by first | rfl | (simp; done) | (simp [*]; done)), H', ⟨Nat.le_refl _⟩, ⟨by repeat (first | (with_reducible first | exact HB.out | apply below_alloc | apply pw_below_drewN | apply below_drew1) | exact HB.out)⟩⟩
  case round =>
    clear H'
    try clear c1
    obtain ⟨x0_1, x3_1, rfl, rfl, HA, HK1, HB⟩ := hrel
    cases gk with
    | zero => exact absurd HA.out (by simp [timers_Delay.l0])
    | succ k1 =>
      have H := HA.out
      clear HA
      simp only [timers_Delay.l0] at H
      by_cases c2 : x0_1 > 1
      · rw [if_pos c2] at H
        have c2b0 : decide (1 < x0_1) = true := decide_eq_true c2
        clear c2
        by_cases c3 : x3_1 < 40
        · rw [if_pos c3] at H
          have c3b0 : decide (x3_1 < 40) = true := decide_eq_true c3
          clear c3
          have H' := Aside0.mk H
          clear H
          go_wp2
          go_roundg k1
          case measure => have := HK1.out; omega
          case rel => exact ⟨(wrap64 (x0_1 - 1)), (wrap64 (x3_1 * 2)), (by first | rfl | (simp; done) | (simp [*]; done)), (by first | rfl | (simp; done) | (simp [*]; done)), H', ⟨by have := HK1.out; omega⟩, ⟨by repeat (first | (with_reducible first | exact HB.out | apply below_alloc | apply pw_below_drewN | apply below_drew1) | exact HB.out)⟩⟩
        · rw [if_neg c3] at H
          have c3b0 : decide (x3_1 < 40) = false := decide_eq_false c3
          clear c3
          by_cases c4 : x0_1 < 1
          · rw [if_pos c4] at H
            have c4b0 : decide (x0_1 < 1) = true := decide_eq_true c4
            clear c4
            obtain rfl := Option.some.inj H
            go_wp2
            go_ret
            exact ⟨by first | rfl | (simp [errW_none, errW_some] <;> rfl) | (simp [*, errW_none, errW_some] <;> rfl), by repeat (first | (with_reducible first | exact HB.out | apply below_alloc | apply pw_below_drewN | apply below_drew1) | exact HB.out)⟩
          · rw [if_neg c4] at H
            have c4b0 : decide (x0_1 < 1) = false := decide_eq_false c4
            clear c4
            obtain ⟨ji5, hji5⟩ : ∃ j_ : Int, (mn x3_1 40) = j_ := ⟨_, rfl⟩
            replace H : (some ji5) = some r := by first | (rw [hji5] at H; exact H) | (simp only [hji5] at H ⊢; exact H)
            have hji5_ : (if 40 < x3_1 then 40 else x3_1) = ji5 := hji5
            obtain rfl := Option.some.inj H
            go_wp2
            go_ret
            exact ⟨by first | rfl | (simp [errW_none, errW_some] <;> rfl) | (simp only [← hji5]; first | rfl | (simp [errW_none, errW_some] <;> rfl)) | (simp [*, errW_none, errW_some] <;> rfl), by repeat (first | (with_reducible first | exact HB.out | apply below_alloc | apply pw_below_drewN | apply below_drew1) | exact HB.out)⟩
      · rw [if_neg c2] at H
        have c2b0 : decide (1 < x0_1) = false := decide_eq_false c2
        clear c2
        by_cases c6 : x0_1 < 1
        · rw [if_pos c6] at H
          have c6b0 : decide (x0_1 < 1) = true := decide_eq_true c6
          clear c6
          obtain rfl := Option.some.inj H
          go_wp2
          go_ret
          exact ⟨by first | rfl | (simp [errW_none, errW_some] <;> rfl) | (simp [*, errW_none, errW_some] <;> rfl), by repeat (first | (with_reducible first | exact HB.out | apply below_alloc | apply pw_below_drewN | apply below_drew1) | exact HB.out)⟩
        · rw [if_neg c6] at H
          have c6b0 : decide (x0_1 < 1) = false := decide_eq_false c6
          clear c6
          obtain ⟨ji7, hji7⟩ : ∃ j_ : Int, (mn x3_1 40) = j_ := ⟨_, rfl⟩
          replace H : (some ji7) = some r := by first | (rw [hji7] at H; exact H) | (simp only [hji7] at H ⊢; exact H)
          have hji7_ : (if 40 < x3_1 then 40 else x3_1) = ji7 := hji7
          obtain rfl := Option.some.inj H
          go_wp2
          go_ret
          exact ⟨by first | rfl | (simp [errW_none, errW_some] <;> rfl) | (simp only [← hji7]; first | rfl | (simp [errW_none, errW_some] <;> rfl)) | (simp [*, errW_none, errW_some] <;> rfl), by repeat (first | (with_reducible first | exact HB.out | apply below_alloc | apply pw_below_drewN | apply below_drew1) | exact HB.out)⟩

-- NOT PRINTED: function 61 (timers_New)

-- NOT PRINTED: function 62 (timers_Timers_Set)

-- NOT PRINTED: function 72 (timers_Timers_Len)

/-! ### tumbrellaw16_awake: function 15 -/
def tumbrellaw16_awake.f  : Option (Bool) := some (((([1] : List Int)).length : Int) == 1)
set_option maxHeartbeats 8000000 in
set_option maxRecDepth 100000 in
theorem awake16_new (w : World) : Calls Try.prog 61 #[] w fun e w' => e = .returned (.pointer (some ⟨w.heap.size, 0, none⟩)) ∧ w' = w.alloc (.cells #[.map none] 98) := by
  go_enter Try.func61, Try.ntmps61
  go_wp2
  go_ret
  exact ⟨rfl, rfl⟩
theorem awake16_law : Go.Maps.Keyed Try.prog 9 := Go.Maps.string_keyed Try.underlying9
set_option maxHeartbeats 8000000 in
set_option maxRecDepth 100000 in
theorem awake16_set (w : World) (b : Nat) (hb : w.heap[b]? = some (.cells #[.map none] 98 (0, 0))) : Calls Try.prog 62 #[.pointer (some ⟨b, 0, none⟩), .string ⟨#[97]⟩, .int .i64 5] w fun e w' => e = .returned (.tuple #[]) ∧ w'.heap[b]? = some (.cells #[.map (some w.heap.size)] 98 (0, 0)) ∧ w'.ownsMap (H := Unit) Try.prog 9 (plainElem Try.prog 2) w.heap.size (0 + 1) ((DataW.map []).put (.string [97]) (.lit (.int .i64 5))) ∧ (∀ base, base ≤ b → Below base w w') := by
  have hmm := @run_makeMap Try.prog
  have hmn := fun (W : World) => run_eql_map_nil (P := Try.prog) W 96 9 2 none Try.underlying96
  have c0 : w.cell? ⟨b, 0, none⟩ = some (.map none) := blk_cell hb 0
  have f0 := blk_frozen hb 0
  have hlt : b < w.heap.size := by
    rcases Nat.lt_or_ge b w.heap.size with h | h
    · exact h
    · rw [Array.getElem?_eq_none h] at hb; cases hb
  have hsz : (w.setCell ⟨b, 0, none⟩ (.map (some w.heap.size))).heap.size = w.heap.size := by simp
  have hown : ((w.setCell ⟨b, 0, none⟩ (.map (some w.heap.size))).alloc (.map #[] 0)).ownsMap (H := Unit) Try.prog 9 (plainElem Try.prog 2) w.heap.size 0 (.map []) := by
    have h_ := World.ownsMap_made (H := Unit) (w.setCell ⟨b, 0, none⟩ (.map (some w.heap.size))) Try.prog 9 (plainElem Try.prog 2)
    rwa [hsz] at h_
  have hkey : keyOf Try.prog 9 (.string ⟨#[97]⟩) = some (.string [97]) := Go.WideMaps.keyOf_string_mk Try.underlying9 (by decide)
  go_enter Try.func62, Try.ntmps62
  go_wp2_with (first
    | (at_mapUpdate; refine wpList_mapUpdate_own _ rfl _ _ _ 96 rfl 9 2 awake16_law Try.underlying96 _ w.heap.size 0 _ rfl hown (by unfold maxLen; omega) _ _ _ rfl rfl hkey _ [] (plainElem_int Try.underlying2 (by decide)) ?_; intro w1 hown1 hgrow1)
    | go_in)
  go_end0
  refine ⟨rfl, ?_, hown1, fun base hbase => ?_⟩
  · refine blk_grown (blk_alloc (blk_put (cs := #[.map none]) hb 0 _ rfl) _) hgrow1 ?_
    intro h_
    cases h_
    omega
  · have h0 : Below base w (w.setCell ⟨b, 0, none⟩ (.map (some w.heap.size))) := (Below.refl base w).setCell hbase _
    have h1 := h0.alloc (by rw [hsz]; omega) (.map #[] 0)
    exact h1.grown hgrow1 (by have := h1.size; omega) (fun j hj => by cases hj; omega)
set_option maxHeartbeats 8000000 in
set_option maxRecDepth 100000 in
theorem awake16_len (w : World) (b m n : Nat) (D : DataW Unit) (hb : w.heap[b]? = some (.cells #[.map (some m)] 98 (0, 0))) (hown : w.ownsMap Try.prog 9 (plainElem Try.prog 2) m n D) : Calls Try.prog 72 #[.pointer (some ⟨b, 0, none⟩)] w fun e w' => e = .returned (.int .i64 (Go.Maps.size D)) ∧ w' = w := by
  have c0 : w.cell? ⟨b, 0, none⟩ = some (.map (some m)) := blk_cell hb 0
  have f0 := blk_frozen hb 0
  have hlen := hown.len Try.underlying96 3
  go_enter Try.func72, Try.ntmps72
  go_wp2
  go_ret
  exact ⟨rfl, rfl⟩
set_option maxHeartbeats 8000000 in
set_option maxRecDepth 100000 in
theorem tumbrellaw16_awake.calls  (r : Bool) (w : World) (h : tumbrellaw16_awake.f  = some r) :
    Calls Try.prog 15 #[] w fun e w' => e = .returned (.bool r) ∧ Below w.heap.size w w' := by
  obtain rfl : r = true := (Option.some.inj h).symm
  have HD : timers_Delay.f 3 2 = some 4 := by decide +kernel
  have hb0 : (w.alloc (.cells #[.map none] 98)).heap[w.heap.size]? = some (.cells #[.map none] 98 (0, 0)) := Array.getElem?_push_size
  go_enter Try.func15, Try.ntmps15
  go_wp2_with (first
    | (go_at_call 61; (with_reducible refine (awake16_new _).mono ?_); rintro e w' ⟨rfl, rfl⟩)
    | (go_at_call 62; (with_reducible refine (awake16_set _ _ hb0).mono ?_); rintro e w1 ⟨rfl, hb1, hown1, hbel1⟩)
    | (go_at_call 72; (with_reducible refine (awake16_len _ _ _ _ _ hb1 hown1).mono ?_); rintro e w2 ⟨rfl, rfl⟩)
    | (go_at_call 14; (with_reducible refine (timers_Delay.calls 3 2 4 _ HD).mono ?_); rintro e w3 ⟨rfl, hbel3⟩)
    | go_in)
  · go_ret
    have hb4 : Below w.heap.size w w2 := by
      have h1 := (Below.refl w.heap.size w).alloc (Nat.le_refl _) (.cells #[.map none] 98)
      exact h1.trans (hbel1 _ (Nat.le_refl _))
    exact ⟨rfl, below_step hb4 hbel3⟩

/-! ### tumbrellaw16_TimersNil: function 13 -/
def tumbrellaw16_TimersNil.f (a0 : ByteArray) (a1 : Int) : Option (Bool) := (tumbrellaw16_awake.f).bind fun t104 => (some t104)
set_option maxHeartbeats 8000000 in
set_option maxRecDepth 100000 in
theorem nil16_set (s : ByteArray) (x : Int) (w : World) : Calls Try.prog 62 #[.pointer none, .string s, .int .i64 x] w fun e w' => e = .returned (.tuple #[]) ∧ w' = w := by
  go_enter Try.func62, Try.ntmps62
  go_wp2
  (try simp only [Exit.inBlock, Exit.then])
  refine bodyPost_ret (results_none rfl _ _ _) rfl ?_
  exact ⟨rfl, rfl⟩
set_option maxHeartbeats 8000000 in
set_option maxRecDepth 100000 in
theorem nil16_due (s : ByteArray) (w : World) : Calls Try.prog 69 #[.pointer none, .string s] w fun e w' => e = .returned (.tuple #[.int .i64 0, .bool false]) ∧ w' = w := by
  go_enter Try.func69, Try.ntmps69
  go_wp2
  go_ret2
  exact ⟨rfl, rfl⟩
set_option maxHeartbeats 8000000 in
set_option maxRecDepth 100000 in
theorem nil16_len (w : World) : Calls Try.prog 72 #[.pointer none] w fun e w' => e = .returned (.int .i64 0) ∧ w' = w := by
  go_enter Try.func72, Try.ntmps72
  go_wp2
  go_ret
  exact ⟨rfl, rfl⟩
set_option maxHeartbeats 8000000 in
set_option maxRecDepth 100000 in
theorem nil16_next (w : World) : Calls Try.prog 71 #[.pointer none] w fun e w' => e = .returned (.tuple #[.int .i64 0, .bool false]) ∧ w' = w := by
  go_enter Try.func71, Try.ntmps71
  go_wp2_with (first | (go_at_call 72; (with_reducible refine (nil16_len _).mono ?_); rintro e w1 ⟨rfl, rfl⟩) | go_in)
  go_ret2
  exact ⟨rfl, rfl⟩
set_option maxHeartbeats 8000000 in
set_option maxRecDepth 100000 in
theorem nil16_stop (s : ByteArray) (w : World) : Calls Try.prog 64 #[.pointer none, .string s] w fun e w' => e = .returned (.bool false) ∧ w' = w := by
  go_enter Try.func64, Try.ntmps64
  go_wp2_with (first | (go_at_call 69; (with_reducible refine (nil16_due _ _).mono ?_); rintro e w1 ⟨rfl, rfl⟩) | go_in)
  go_ret
  exact ⟨rfl, rfl⟩
set_option maxHeartbeats 8000000 in
set_option maxRecDepth 100000 in
theorem nil16_take (x : Int) (w : World) : Calls Try.prog 67 #[.pointer none, .int .i64 x] w fun e w' => e = .returned (.slice none 0 0) ∧ Below w.heap.size w w' := by
  go_enter Try.func67, Try.ntmps67
  go_wp2
  go_ret
  exact ⟨rfl, by repeat (first | apply below_alloc | apply pw_below_drewN | apply below_drew1 | exact Below.refl _ _)⟩
set_option maxHeartbeats 8000000 in
set_option maxRecDepth 100000 in
theorem tumbrellaw16_TimersNil.calls (a0 : ByteArray) (a1 : Int) (r : Bool) (w : World) (h : tumbrellaw16_TimersNil.f a0 a1 = some r) :
    Calls Try.prog 13 #[.string a0, .int .i64 a1] w fun e w' => e = .returned (.bool r) ∧ Below w.heap.size w w' := by
  obtain rfl : r = true := (Option.some.inj h).symm
  go_enter Try.func13, Try.ntmps13
  go_wp2_with (first
    | (go_at_call 15; (with_reducible refine (tumbrellaw16_awake.calls true _ rfl).mono ?_); rintro e w1 ⟨rfl, hb1⟩)
    | (go_at_call 62; (with_reducible refine (nil16_set _ _ _).mono ?_); rintro e w2 ⟨rfl, rfl⟩)
    | (go_at_call 69; (with_reducible refine (nil16_due _ _).mono ?_); rintro e w2 ⟨rfl, rfl⟩)
    | (go_at_call 71; (with_reducible refine (nil16_next _).mono ?_); rintro e w2 ⟨rfl, rfl⟩)
    | (go_at_call 72; (with_reducible refine (nil16_len _).mono ?_); rintro e w2 ⟨rfl, rfl⟩)
    | (go_at_call 64; (with_reducible refine (nil16_stop _ _).mono ?_); rintro e w2 ⟨rfl, rfl⟩)
    | (go_at_call 67; (with_reducible refine (nil16_take _ _).mono ?_); rintro e w2 ⟨rfl, hb2⟩)
    | go_in)
  go_ret
  exact ⟨rfl, below_step hb1 hb2⟩

/-- THE ONE PURE STATEMENT of tumbrellaw16_TimersNil: yours. -/
def tumbrellaw16_TimersNil.Pure : Prop := ∀ (a0 : ByteArray) (a1 : Int), a0.size ≤ 140737488351232 → (Lit.int .i64 a1).wf = true → tumbrellaw16_TimersNil.f a0 a1 = some true
theorem tumbrellaw16_TimersNil.walk (P : tumbrellaw16_TimersNil.Pure) (a0 : ByteArray) (a1 : Int) (w : World) (w0 : a0.size ≤ 140737488351232) (w1 : (Lit.int .i64 a1).wf = true) :
    Calls Try.prog 13 #[.string a0, .int .i64 a1] w fun e w' => e = .returned (.bool true) ∧ Below w.heap.size w w' := by
  have h := P a0 a1 w0 w1
  refine (tumbrellaw16_TimersNil.calls a0 a1 true w h).mono ?_
  rintro e w' ⟨rfl, hd⟩
  exact ⟨rfl, hd⟩

end Go.Proofs.Ytjghlomkimoeoaa.PTimersNil
