-- Written by fprint.py (wip), by way of the printer's functions; where they are turned, by texts of mine.
import Derived.Test.YtdglbiafpofeeaaPOutboxDecodesx0
namespace Go.Proofs.Ytdglbiafpofeeaa.POutboxDecodes
open Go.RowKit Go.Proofs.YtdglbiafpofeeaaW.PrintWords Go.Proofs.YtdglbiafpofeeaaW.PrintLast Go.Proofs.YtdglbiafpofeeaaW.PrintMore
attribute [local go_sem] max2_int min2_int max_two min_two max_three min_three max_four min_four   -- for this text's walks alone
set_option linter.unusedVariables false
set_option linter.unusedSimpArgs false
theorem kz8_1 {p_ : Prop} (h_ : p_ := by repeat (first | (with_reducible first | exact HB.out | apply below_alloc | apply pw_below_drewN | apply below_drew1) | exact HB.out)) : p_ := h_
theorem kz8_2 {p_ : Prop} (h_ : p_ := by first | rfl | (simp; done) | (simp [*]; done)) : p_ := h_

/-! ### tumbrelref18_Formed: function 37 -/
def tumbrelref18_Formed.f (a0_0 : Int) (a0_1 : Int) (a0_2 : Int) (a0_3 : ByteArray) (a0_4 : Int) (a0_5 : Bool) : Option (Bool) := if a0_0 < 1 then (some false) else (if a0_0 > 4 then (some false) else (if a0_1 < 0 then (some false) else (if a0_1 > 2147483647 then (some false) else (if a0_2 < 0 then (some false) else (if a0_2 > 2147483647 then (some false) else (if a0_4 < 0 then (some false) else (if a0_4 > 2147483647 then (some false) else (if (a0_3.size : Int) ≤ 200 then (if a0_0 > 2 then (some true) else (some (!a0_5))) else (some false)))))))))
set_option maxHeartbeats 8000000 in
set_option maxRecDepth 100000 in
theorem tumbrelref18_Formed.calls (a0_0 : Int) (a0_1 : Int) (a0_2 : Int) (a0_3 : ByteArray) (a0_4 : Int) (a0_5 : Bool) (r : Bool) (w : World) (h : tumbrelref18_Formed.f a0_0 a0_1 a0_2 a0_3 a0_4 a0_5 = some r) :
  Calls Try.prog 37 #[.agg #[.int .i64 a0_0, .int .i64 a0_1, .int .i64 a0_2, .string a0_3, .int .i64 a0_4, .bool a0_5]] w fun e w' => e = .returned (.bool r) ∧ Below w.heap.size w w' := by
 have hu28 := Try.underlying28
 have HB := Aside0.mk (Below.refl w.heap.size w)
 have H : (if a0_0 < 1 then (some false) else (if a0_0 > 4 then (some false) else (if a0_1 < 0 then (some false) else (if a0_1 > 2147483647 then (some false) else (if a0_2 < 0 then (some false) else (if a0_2 > 2147483647 then (some false) else (if a0_4 < 0 then (some false) else (if a0_4 > 2147483647 then (some false) else (if (a0_3.size : Int) ≤ 200 then (if a0_0 > 2 then (some true) else (some (!a0_5))) else (some false)))))))))) = some r := h
 clear h
 by_cases c2 : a0_0 < 1
 ·rw [if_pos c2] at H
  have c2b0 : decide (a0_0 < 1) = true := decide_eq_true c2
  clear c2
  obtain rfl := Option.some.inj H
  go_enter Try.func37, Try.ntmps37
  go_wp2_with (first | ((with_reducible refine gate_dst (N := 1) rfl ?_); refine box_event ?hg (N := 1) ?hd (cs := #[.int .i64 a0_0, .int .i64 a0_1, .int .i64 a0_2, .string a0_3, .int .i64 a0_4, .bool a0_5]) (t := 28) ?hr ?_; (case hd => rfl); (case hg => rfl); (case hr => first | (go_simp; done) | (go_simp; rfl)); intro gb331 hg w3 hbox hb; have n0_ := Aside0.mk (below_step kz8_1 hb); have n1_ := Aside0.mk (hbox); have n2_ := Aside0.mk ((by rw [hg]; exact (below_size kz8_1) : w.heap.size ≤ gb331)); have n3_ := Aside0.mk ((by rw [hg]; exact (below_size kz8_1) : w.heap.size ≤ gb331)); clear HB; have HB := n0_; have BK331 := n1_; have GW331 := n2_; have GE331 := n3_; clear n0_ n1_ n2_ n3_; clear hb hbox hg; have hcz4_0 : w3.cell? ⟨gb331, 0, none⟩ = some (.int .i64 a0_0) := (blk_cell BK331.out 0).trans rfl; have hcz4_1 : w3.cell? ⟨gb331, 1, none⟩ = some (.int .i64 a0_1) := (blk_cell BK331.out 1).trans rfl; have hcz4_2 : w3.cell? ⟨gb331, 2, none⟩ = some (.int .i64 a0_2) := (blk_cell BK331.out 2).trans rfl; have hcz4_3 : w3.cell? ⟨gb331, 3, none⟩ = some (.string a0_3) := (blk_cell BK331.out 3).trans rfl; have hcz4_4 : w3.cell? ⟨gb331, 4, none⟩ = some (.int .i64 a0_4) := (blk_cell BK331.out 4).trans rfl; have hcz4_5 : w3.cell? ⟨gb331, 5, none⟩ = some (.bool a0_5) := (blk_cell BK331.out 5).trans rfl; have hfz4_0 := blk_frozen BK331.out 0; have hfz4_1 := blk_frozen BK331.out 1; have hfz4_2 := blk_frozen BK331.out 2; have hfz4_3 := blk_frozen BK331.out 3; have hfz4_4 := blk_frozen BK331.out 4; have hfz4_5 := blk_frozen BK331.out 5))
  go_ret
  exact ⟨by first | rfl | (simp [errW_none, errW_some] <;> rfl) | (simp [*, errW_none, errW_some] <;> rfl), by repeat (first | (with_reducible first | exact HB.out | apply below_alloc | apply pw_below_drewN | apply below_drew1 | refine below_set ?_ GE331.out) | exact HB.out)⟩
 ·rw [if_neg c2] at H
  have c2b0 : decide (a0_0 < 1) = false := decide_eq_false c2
  clear c2
  by_cases c5 : a0_0 > 4
  ·rw [if_pos c5] at H
   have c5b0 : decide (4 < a0_0) = true := decide_eq_true c5
   clear c5
   obtain rfl := Option.some.inj H
   go_enter Try.func37, Try.ntmps37
   go_wp2_with (first | ((with_reducible refine gate_dst (N := 1) rfl ?_); refine box_event ?hg (N := 1) ?hd (cs := #[.int .i64 a0_0, .int .i64 a0_1, .int .i64 a0_2, .string a0_3, .int .i64 a0_4, .bool a0_5]) (t := 28) ?hr ?_; (case hd => rfl); (case hg => rfl); (case hr => first | (go_simp; done) | (go_simp; rfl)); intro gb331 hg w6 hbox hb; have n0_ := Aside0.mk (below_step kz8_1 hb); have n1_ := Aside0.mk (hbox); have n2_ := Aside0.mk ((by rw [hg]; exact (below_size kz8_1) : w.heap.size ≤ gb331)); have n3_ := Aside0.mk ((by rw [hg]; exact (below_size kz8_1) : w.heap.size ≤ gb331)); clear HB; have HB := n0_; have BK331 := n1_; have GW331 := n2_; have GE331 := n3_; clear n0_ n1_ n2_ n3_; clear hb hbox hg; have hcz7_0 : w6.cell? ⟨gb331, 0, none⟩ = some (.int .i64 a0_0) := (blk_cell BK331.out 0).trans rfl; have hcz7_1 : w6.cell? ⟨gb331, 1, none⟩ = some (.int .i64 a0_1) := (blk_cell BK331.out 1).trans rfl; have hcz7_2 : w6.cell? ⟨gb331, 2, none⟩ = some (.int .i64 a0_2) := (blk_cell BK331.out 2).trans rfl; have hcz7_3 : w6.cell? ⟨gb331, 3, none⟩ = some (.string a0_3) := (blk_cell BK331.out 3).trans rfl; have hcz7_4 : w6.cell? ⟨gb331, 4, none⟩ = some (.int .i64 a0_4) := (blk_cell BK331.out 4).trans rfl; have hcz7_5 : w6.cell? ⟨gb331, 5, none⟩ = some (.bool a0_5) := (blk_cell BK331.out 5).trans rfl; have hfz7_0 := blk_frozen BK331.out 0; have hfz7_1 := blk_frozen BK331.out 1; have hfz7_2 := blk_frozen BK331.out 2; have hfz7_3 := blk_frozen BK331.out 3; have hfz7_4 := blk_frozen BK331.out 4; have hfz7_5 := blk_frozen BK331.out 5))
   go_ret
   exact ⟨by first | rfl | (simp [errW_none, errW_some] <;> rfl) | (simp [*, errW_none, errW_some] <;> rfl), by repeat (first | (with_reducible first | exact HB.out | apply below_alloc | apply pw_below_drewN | apply below_drew1 | refine below_set ?_ GE331.out) | exact HB.out)⟩
  ·rw [if_neg c5] at H
   have c5b0 : decide (4 < a0_0) = false := decide_eq_false c5
   clear c5
   by_cases c8 : a0_1 < 0
   ·rw [if_pos c8] at H
    have c8b0 : decide (a0_1 < 0) = true := decide_eq_true c8
    clear c8
    obtain rfl := Option.some.inj H
    go_enter Try.func37, Try.ntmps37
    go_wp2_with (first | ((with_reducible refine gate_dst (N := 1) rfl ?_); refine box_event ?hg (N := 1) ?hd (cs := #[.int .i64 a0_0, .int .i64 a0_1, .int .i64 a0_2, .string a0_3, .int .i64 a0_4, .bool a0_5]) (t := 28) ?hr ?_; (case hd => rfl); (case hg => rfl); (case hr => first | (go_simp; done) | (go_simp; rfl)); intro gb331 hg w9 hbox hb; have n0_ := Aside0.mk (below_step kz8_1 hb); have n1_ := Aside0.mk (hbox); have n2_ := Aside0.mk ((by rw [hg]; exact (below_size kz8_1) : w.heap.size ≤ gb331)); have n3_ := Aside0.mk ((by rw [hg]; exact (below_size kz8_1) : w.heap.size ≤ gb331)); clear HB; have HB := n0_; have BK331 := n1_; have GW331 := n2_; have GE331 := n3_; clear n0_ n1_ n2_ n3_; clear hb hbox hg; have hcz10_0 : w9.cell? ⟨gb331, 0, none⟩ = some (.int .i64 a0_0) := (blk_cell BK331.out 0).trans rfl; have hcz10_1 : w9.cell? ⟨gb331, 1, none⟩ = some (.int .i64 a0_1) := (blk_cell BK331.out 1).trans rfl; have hcz10_2 : w9.cell? ⟨gb331, 2, none⟩ = some (.int .i64 a0_2) := (blk_cell BK331.out 2).trans rfl; have hcz10_3 : w9.cell? ⟨gb331, 3, none⟩ = some (.string a0_3) := (blk_cell BK331.out 3).trans rfl; have hcz10_4 : w9.cell? ⟨gb331, 4, none⟩ = some (.int .i64 a0_4) := (blk_cell BK331.out 4).trans rfl; have hcz10_5 : w9.cell? ⟨gb331, 5, none⟩ = some (.bool a0_5) := (blk_cell BK331.out 5).trans rfl; have hfz10_0 := blk_frozen BK331.out 0; have hfz10_1 := blk_frozen BK331.out 1; have hfz10_2 := blk_frozen BK331.out 2; have hfz10_3 := blk_frozen BK331.out 3; have hfz10_4 := blk_frozen BK331.out 4; have hfz10_5 := blk_frozen BK331.out 5))
    go_ret
    exact ⟨by first | rfl | (simp [errW_none, errW_some] <;> rfl) | (simp [*, errW_none, errW_some] <;> rfl), by repeat (first | (with_reducible first | exact HB.out | apply below_alloc | apply pw_below_drewN | apply below_drew1 | refine below_set ?_ GE331.out) | exact HB.out)⟩
   ·rw [if_neg c8] at H
    have c8b0 : decide (a0_1 < 0) = false := decide_eq_false c8
    clear c8
    by_cases c11 : a0_1 > 2147483647
    ·rw [if_pos c11] at H
     have c11b0 : decide (2147483647 < a0_1) = true := decide_eq_true c11
     clear c11
     obtain rfl := Option.some.inj H
     go_enter Try.func37, Try.ntmps37
     go_wp2_with (first | ((with_reducible refine gate_dst (N := 1) rfl ?_); refine box_event ?hg (N := 1) ?hd (cs := #[.int .i64 a0_0, .int .i64 a0_1, .int .i64 a0_2, .string a0_3, .int .i64 a0_4, .bool a0_5]) (t := 28) ?hr ?_; (case hd => rfl); (case hg => rfl); (case hr => first | (go_simp; done) | (go_simp; rfl)); intro gb331 hg w12 hbox hb; have n0_ := Aside0.mk (below_step kz8_1 hb); have n1_ := Aside0.mk (hbox); have n2_ := Aside0.mk ((by rw [hg]; exact (below_size kz8_1) : w.heap.size ≤ gb331)); have n3_ := Aside0.mk ((by rw [hg]; exact (below_size kz8_1) : w.heap.size ≤ gb331)); clear HB; have HB := n0_; have BK331 := n1_; have GW331 := n2_; have GE331 := n3_; clear n0_ n1_ n2_ n3_; clear hb hbox hg; have hcz13_0 : w12.cell? ⟨gb331, 0, none⟩ = some (.int .i64 a0_0) := (blk_cell BK331.out 0).trans rfl; have hcz13_1 : w12.cell? ⟨gb331, 1, none⟩ = some (.int .i64 a0_1) := (blk_cell BK331.out 1).trans rfl; have hcz13_2 : w12.cell? ⟨gb331, 2, none⟩ = some (.int .i64 a0_2) := (blk_cell BK331.out 2).trans rfl; have hcz13_3 : w12.cell? ⟨gb331, 3, none⟩ = some (.string a0_3) := (blk_cell BK331.out 3).trans rfl; have hcz13_4 : w12.cell? ⟨gb331, 4, none⟩ = some (.int .i64 a0_4) := (blk_cell BK331.out 4).trans rfl; have hcz13_5 : w12.cell? ⟨gb331, 5, none⟩ = some (.bool a0_5) := (blk_cell BK331.out 5).trans rfl; have hfz13_0 := blk_frozen BK331.out 0; have hfz13_1 := blk_frozen BK331.out 1; have hfz13_2 := blk_frozen BK331.out 2; have hfz13_3 := blk_frozen BK331.out 3; have hfz13_4 := blk_frozen BK331.out 4; have hfz13_5 := blk_frozen BK331.out 5))
     go_ret
     exact ⟨by first | rfl | (simp [errW_none, errW_some] <;> rfl) | (simp [*, errW_none, errW_some] <;> rfl), by repeat (first | (with_reducible first | exact HB.out | apply below_alloc | apply pw_below_drewN | apply below_drew1 | refine below_set ?_ GE331.out) | exact HB.out)⟩
    ·rw [if_neg c11] at H
     have c11b0 : decide (2147483647 < a0_1) = false := decide_eq_false c11
     clear c11
     by_cases c14 : a0_2 < 0
     ·rw [if_pos c14] at H
      have c14b0 : decide (a0_2 < 0) = true := decide_eq_true c14
      clear c14
      obtain rfl := Option.some.inj H
      go_enter Try.func37, Try.ntmps37
      go_wp2_with (first | ((with_reducible refine gate_dst (N := 1) rfl ?_); refine box_event ?hg (N := 1) ?hd (cs := #[.int .i64 a0_0, .int .i64 a0_1, .int .i64 a0_2, .string a0_3, .int .i64 a0_4, .bool a0_5]) (t := 28) ?hr ?_; (case hd => rfl); (case hg => rfl); (case hr => first | (go_simp; done) | (go_simp; rfl)); intro gb331 hg w15 hbox hb; have n0_ := Aside0.mk (below_step kz8_1 hb); have n1_ := Aside0.mk (hbox); have n2_ := Aside0.mk ((by rw [hg]; exact (below_size kz8_1) : w.heap.size ≤ gb331)); have n3_ := Aside0.mk ((by rw [hg]; exact (below_size kz8_1) : w.heap.size ≤ gb331)); clear HB; have HB := n0_; have BK331 := n1_; have GW331 := n2_; have GE331 := n3_; clear n0_ n1_ n2_ n3_; clear hb hbox hg; have hcz16_0 : w15.cell? ⟨gb331, 0, none⟩ = some (.int .i64 a0_0) := (blk_cell BK331.out 0).trans rfl; have hcz16_1 : w15.cell? ⟨gb331, 1, none⟩ = some (.int .i64 a0_1) := (blk_cell BK331.out 1).trans rfl; have hcz16_2 : w15.cell? ⟨gb331, 2, none⟩ = some (.int .i64 a0_2) := (blk_cell BK331.out 2).trans rfl; have hcz16_3 : w15.cell? ⟨gb331, 3, none⟩ = some (.string a0_3) := (blk_cell BK331.out 3).trans rfl; have hcz16_4 : w15.cell? ⟨gb331, 4, none⟩ = some (.int .i64 a0_4) := (blk_cell BK331.out 4).trans rfl; have hcz16_5 : w15.cell? ⟨gb331, 5, none⟩ = some (.bool a0_5) := (blk_cell BK331.out 5).trans rfl; have hfz16_0 := blk_frozen BK331.out 0; have hfz16_1 := blk_frozen BK331.out 1; have hfz16_2 := blk_frozen BK331.out 2; have hfz16_3 := blk_frozen BK331.out 3; have hfz16_4 := blk_frozen BK331.out 4; have hfz16_5 := blk_frozen BK331.out 5))
      go_ret
      exact ⟨by first | rfl | (simp [errW_none, errW_some] <;> rfl) | (simp [*, errW_none, errW_some] <;> rfl), by repeat (first | (with_reducible first | exact HB.out | apply below_alloc | apply pw_below_drewN | apply below_drew1 | refine below_set ?_ GE331.out) | exact HB.out)⟩
     ·rw [if_neg c14] at H
      have c14b0 : decide (a0_2 < 0) = false := decide_eq_false c14
      clear c14
      by_cases c17 : a0_2 > 2147483647
      ·rw [if_pos c17] at H
       have c17b0 : decide (2147483647 < a0_2) = true := decide_eq_true c17
       clear c17
       obtain rfl := Option.some.inj H
       go_enter Try.func37, Try.ntmps37
       go_wp2_with (first | ((with_reducible refine gate_dst (N := 1) rfl ?_); refine box_event ?hg (N := 1) ?hd (cs := #[.int .i64 a0_0, .int .i64 a0_1, .int .i64 a0_2, .string a0_3, .int .i64 a0_4, .bool a0_5]) (t := 28) ?hr ?_; (case hd => rfl); (case hg => rfl); (case hr => first | (go_simp; done) | (go_simp; rfl)); intro gb331 hg w18 hbox hb; have n0_ := Aside0.mk (below_step kz8_1 hb); have n1_ := Aside0.mk (hbox); have n2_ := Aside0.mk ((by rw [hg]; exact (below_size kz8_1) : w.heap.size ≤ gb331)); have n3_ := Aside0.mk ((by rw [hg]; exact (below_size kz8_1) : w.heap.size ≤ gb331)); clear HB; have HB := n0_; have BK331 := n1_; have GW331 := n2_; have GE331 := n3_; clear n0_ n1_ n2_ n3_; clear hb hbox hg; have hcz19_0 : w18.cell? ⟨gb331, 0, none⟩ = some (.int .i64 a0_0) := (blk_cell BK331.out 0).trans rfl; have hcz19_1 : w18.cell? ⟨gb331, 1, none⟩ = some (.int .i64 a0_1) := (blk_cell BK331.out 1).trans rfl; have hcz19_2 : w18.cell? ⟨gb331, 2, none⟩ = some (.int .i64 a0_2) := (blk_cell BK331.out 2).trans rfl; have hcz19_3 : w18.cell? ⟨gb331, 3, none⟩ = some (.string a0_3) := (blk_cell BK331.out 3).trans rfl; have hcz19_4 : w18.cell? ⟨gb331, 4, none⟩ = some (.int .i64 a0_4) := (blk_cell BK331.out 4).trans rfl; have hcz19_5 : w18.cell? ⟨gb331, 5, none⟩ = some (.bool a0_5) := (blk_cell BK331.out 5).trans rfl; have hfz19_0 := blk_frozen BK331.out 0; have hfz19_1 := blk_frozen BK331.out 1; have hfz19_2 := blk_frozen BK331.out 2; have hfz19_3 := blk_frozen BK331.out 3; have hfz19_4 := blk_frozen BK331.out 4; have hfz19_5 := blk_frozen BK331.out 5))
       go_ret
       exact ⟨by first | rfl | (simp [errW_none, errW_some] <;> rfl) | (simp [*, errW_none, errW_some] <;> rfl), by repeat (first | (with_reducible first | exact HB.out | apply below_alloc | apply pw_below_drewN | apply below_drew1 | refine below_set ?_ GE331.out) | exact HB.out)⟩
      ·rw [if_neg c17] at H
       have c17b0 : decide (2147483647 < a0_2) = false := decide_eq_false c17
       clear c17
       by_cases c20 : a0_4 < 0
       ·rw [if_pos c20] at H
        have c20b0 : decide (a0_4 < 0) = true := decide_eq_true c20
        clear c20
        obtain rfl := Option.some.inj H
        go_enter Try.func37, Try.ntmps37
        go_wp2_with (first | ((with_reducible refine gate_dst (N := 1) rfl ?_); refine box_event ?hg (N := 1) ?hd (cs := #[.int .i64 a0_0, .int .i64 a0_1, .int .i64 a0_2, .string a0_3, .int .i64 a0_4, .bool a0_5]) (t := 28) ?hr ?_; (case hd => rfl); (case hg => rfl); (case hr => first | (go_simp; done) | (go_simp; rfl)); intro gb331 hg w21 hbox hb; have n0_ := Aside0.mk (below_step kz8_1 hb); have n1_ := Aside0.mk (hbox); have n2_ := Aside0.mk ((by rw [hg]; exact (below_size kz8_1) : w.heap.size ≤ gb331)); have n3_ := Aside0.mk ((by rw [hg]; exact (below_size kz8_1) : w.heap.size ≤ gb331)); clear HB; have HB := n0_; have BK331 := n1_; have GW331 := n2_; have GE331 := n3_; clear n0_ n1_ n2_ n3_; clear hb hbox hg; have hcz22_0 : w21.cell? ⟨gb331, 0, none⟩ = some (.int .i64 a0_0) := (blk_cell BK331.out 0).trans rfl; have hcz22_1 : w21.cell? ⟨gb331, 1, none⟩ = some (.int .i64 a0_1) := (blk_cell BK331.out 1).trans rfl; have hcz22_2 : w21.cell? ⟨gb331, 2, none⟩ = some (.int .i64 a0_2) := (blk_cell BK331.out 2).trans rfl; have hcz22_3 : w21.cell? ⟨gb331, 3, none⟩ = some (.string a0_3) := (blk_cell BK331.out 3).trans rfl; have hcz22_4 : w21.cell? ⟨gb331, 4, none⟩ = some (.int .i64 a0_4) := (blk_cell BK331.out 4).trans rfl; have hcz22_5 : w21.cell? ⟨gb331, 5, none⟩ = some (.bool a0_5) := (blk_cell BK331.out 5).trans rfl; have hfz22_0 := blk_frozen BK331.out 0; have hfz22_1 := blk_frozen BK331.out 1; have hfz22_2 := blk_frozen BK331.out 2; have hfz22_3 := blk_frozen BK331.out 3; have hfz22_4 := blk_frozen BK331.out 4; have hfz22_5 := blk_frozen BK331.out 5))
        go_ret
        exact ⟨by first | rfl | (simp [errW_none, errW_some] <;> rfl) | (simp [*, errW_none, errW_some] <;> rfl), by repeat (first | (with_reducible first | exact HB.out | apply below_alloc | apply pw_below_drewN | apply below_drew1 | refine below_set ?_ GE331.out) | exact HB.out)⟩
       ·rw [if_neg c20] at H
        have c20b0 : decide (a0_4 < 0) = false := decide_eq_false c20
        clear c20
        by_cases c23 : a0_4 > 2147483647
        ·rw [if_pos c23] at H
         have c23b0 : decide (2147483647 < a0_4) = true := decide_eq_true c23
         clear c23
         obtain rfl := Option.some.inj H
         go_enter Try.func37, Try.ntmps37
         go_wp2_with (first | ((with_reducible refine gate_dst (N := 1) rfl ?_); refine box_event ?hg (N := 1) ?hd (cs := #[.int .i64 a0_0, .int .i64 a0_1, .int .i64 a0_2, .string a0_3, .int .i64 a0_4, .bool a0_5]) (t := 28) ?hr ?_; (case hd => rfl); (case hg => rfl); (case hr => first | (go_simp; done) | (go_simp; rfl)); intro gb331 hg w24 hbox hb; have n0_ := Aside0.mk (below_step kz8_1 hb); have n1_ := Aside0.mk (hbox); have n2_ := Aside0.mk ((by rw [hg]; exact (below_size kz8_1) : w.heap.size ≤ gb331)); have n3_ := Aside0.mk ((by rw [hg]; exact (below_size kz8_1) : w.heap.size ≤ gb331)); clear HB; have HB := n0_; have BK331 := n1_; have GW331 := n2_; have GE331 := n3_; clear n0_ n1_ n2_ n3_; clear hb hbox hg; have hcz25_0 : w24.cell? ⟨gb331, 0, none⟩ = some (.int .i64 a0_0) := (blk_cell BK331.out 0).trans rfl; have hcz25_1 : w24.cell? ⟨gb331, 1, none⟩ = some (.int .i64 a0_1) := (blk_cell BK331.out 1).trans rfl; have hcz25_2 : w24.cell? ⟨gb331, 2, none⟩ = some (.int .i64 a0_2) := (blk_cell BK331.out 2).trans rfl; have hcz25_3 : w24.cell? ⟨gb331, 3, none⟩ = some (.string a0_3) := (blk_cell BK331.out 3).trans rfl; have hcz25_4 : w24.cell? ⟨gb331, 4, none⟩ = some (.int .i64 a0_4) := (blk_cell BK331.out 4).trans rfl; have hcz25_5 : w24.cell? ⟨gb331, 5, none⟩ = some (.bool a0_5) := (blk_cell BK331.out 5).trans rfl; have hfz25_0 := blk_frozen BK331.out 0; have hfz25_1 := blk_frozen BK331.out 1; have hfz25_2 := blk_frozen BK331.out 2; have hfz25_3 := blk_frozen BK331.out 3; have hfz25_4 := blk_frozen BK331.out 4; have hfz25_5 := blk_frozen BK331.out 5))
         go_ret
         exact ⟨by first | rfl | (simp [errW_none, errW_some] <;> rfl) | (simp [*, errW_none, errW_some] <;> rfl), by repeat (first | (with_reducible first | exact HB.out | apply below_alloc | apply pw_below_drewN | apply below_drew1 | refine below_set ?_ GE331.out) | exact HB.out)⟩
        ·rw [if_neg c23] at H
         have c23b0 : decide (2147483647 < a0_4) = false := decide_eq_false c23
         clear c23
         by_cases c26 : (a0_3.size : Int) ≤ 200
         ·rw [if_pos c26] at H
          have c26b0 : decide ((a0_3.size : Int) ≤ 200) = true := decide_eq_true c26
          have c26b1 : decide (a0_3.size ≤ 200) = true := decide_eq_true (by omega)
          clear c26
          by_cases c27 : a0_0 > 2
          ·rw [if_pos c27] at H
           have c27b0 : decide (2 < a0_0) = true := decide_eq_true c27
           clear c27
           obtain rfl := Option.some.inj H
           go_enter Try.func37, Try.ntmps37
           go_wp2_with (first | ((with_reducible refine gate_dst (N := 1) rfl ?_); refine box_event ?hg (N := 1) ?hd (cs := #[.int .i64 a0_0, .int .i64 a0_1, .int .i64 a0_2, .string a0_3, .int .i64 a0_4, .bool a0_5]) (t := 28) ?hr ?_; (case hd => rfl); (case hg => rfl); (case hr => first | (go_simp; done) | (go_simp; rfl)); intro gb331 hg w28 hbox hb; have n0_ := Aside0.mk (below_step kz8_1 hb); have n1_ := Aside0.mk (hbox); have n2_ := Aside0.mk ((by rw [hg]; exact (below_size kz8_1) : w.heap.size ≤ gb331)); have n3_ := Aside0.mk ((by rw [hg]; exact (below_size kz8_1) : w.heap.size ≤ gb331)); clear HB; have HB := n0_; have BK331 := n1_; have GW331 := n2_; have GE331 := n3_; clear n0_ n1_ n2_ n3_; clear hb hbox hg; have hcz29_0 : w28.cell? ⟨gb331, 0, none⟩ = some (.int .i64 a0_0) := (blk_cell BK331.out 0).trans rfl; have hcz29_1 : w28.cell? ⟨gb331, 1, none⟩ = some (.int .i64 a0_1) := (blk_cell BK331.out 1).trans rfl; have hcz29_2 : w28.cell? ⟨gb331, 2, none⟩ = some (.int .i64 a0_2) := (blk_cell BK331.out 2).trans rfl; have hcz29_3 : w28.cell? ⟨gb331, 3, none⟩ = some (.string a0_3) := (blk_cell BK331.out 3).trans rfl; have hcz29_4 : w28.cell? ⟨gb331, 4, none⟩ = some (.int .i64 a0_4) := (blk_cell BK331.out 4).trans rfl; have hcz29_5 : w28.cell? ⟨gb331, 5, none⟩ = some (.bool a0_5) := (blk_cell BK331.out 5).trans rfl; have hfz29_0 := blk_frozen BK331.out 0; have hfz29_1 := blk_frozen BK331.out 1; have hfz29_2 := blk_frozen BK331.out 2; have hfz29_3 := blk_frozen BK331.out 3; have hfz29_4 := blk_frozen BK331.out 4; have hfz29_5 := blk_frozen BK331.out 5))
           go_ret
           exact ⟨by first | rfl | (simp [errW_none, errW_some] <;> rfl) | (simp [*, errW_none, errW_some] <;> rfl), by repeat (first | (with_reducible first | exact HB.out | apply below_alloc | apply pw_below_drewN | apply below_drew1 | refine below_set ?_ GE331.out) | exact HB.out)⟩
          ·rw [if_neg c27] at H
           have c27b0 : decide (2 < a0_0) = false := decide_eq_false c27
           clear c27
           obtain rfl := Option.some.inj H
           go_enter Try.func37, Try.ntmps37
           go_wp2_with (first | ((with_reducible refine gate_dst (N := 1) rfl ?_); refine box_event ?hg (N := 1) ?hd (cs := #[.int .i64 a0_0, .int .i64 a0_1, .int .i64 a0_2, .string a0_3, .int .i64 a0_4, .bool a0_5]) (t := 28) ?hr ?_; (case hd => rfl); (case hg => rfl); (case hr => first | (go_simp; done) | (go_simp; rfl)); intro gb331 hg w30 hbox hb; have n0_ := Aside0.mk (below_step kz8_1 hb); have n1_ := Aside0.mk (hbox); have n2_ := Aside0.mk ((by rw [hg]; exact (below_size kz8_1) : w.heap.size ≤ gb331)); have n3_ := Aside0.mk ((by rw [hg]; exact (below_size kz8_1) : w.heap.size ≤ gb331)); clear HB; have HB := n0_; have BK331 := n1_; have GW331 := n2_; have GE331 := n3_; clear n0_ n1_ n2_ n3_; clear hb hbox hg; have hcz31_0 : w30.cell? ⟨gb331, 0, none⟩ = some (.int .i64 a0_0) := (blk_cell BK331.out 0).trans rfl; have hcz31_1 : w30.cell? ⟨gb331, 1, none⟩ = some (.int .i64 a0_1) := (blk_cell BK331.out 1).trans rfl; have hcz31_2 : w30.cell? ⟨gb331, 2, none⟩ = some (.int .i64 a0_2) := (blk_cell BK331.out 2).trans rfl; have hcz31_3 : w30.cell? ⟨gb331, 3, none⟩ = some (.string a0_3) := (blk_cell BK331.out 3).trans rfl; have hcz31_4 : w30.cell? ⟨gb331, 4, none⟩ = some (.int .i64 a0_4) := (blk_cell BK331.out 4).trans rfl; have hcz31_5 : w30.cell? ⟨gb331, 5, none⟩ = some (.bool a0_5) := (blk_cell BK331.out 5).trans rfl; have hfz31_0 := blk_frozen BK331.out 0; have hfz31_1 := blk_frozen BK331.out 1; have hfz31_2 := blk_frozen BK331.out 2; have hfz31_3 := blk_frozen BK331.out 3; have hfz31_4 := blk_frozen BK331.out 4; have hfz31_5 := blk_frozen BK331.out 5))
           go_ret
           exact ⟨by first | rfl | (simp [errW_none, errW_some] <;> rfl) | (simp [*, errW_none, errW_some] <;> rfl), by repeat (first | (with_reducible first | exact HB.out | apply below_alloc | apply pw_below_drewN | apply below_drew1 | refine below_set ?_ GE331.out) | exact HB.out)⟩
         ·rw [if_neg c26] at H
          have c26b0 : decide ((a0_3.size : Int) ≤ 200) = false := decide_eq_false c26
          have c26b1 : decide (a0_3.size ≤ 200) = false := decide_eq_false (by omega)
          clear c26
          obtain rfl := Option.some.inj H
          go_enter Try.func37, Try.ntmps37
          go_wp2_with (first | ((with_reducible refine gate_dst (N := 1) rfl ?_); refine box_event ?hg (N := 1) ?hd (cs := #[.int .i64 a0_0, .int .i64 a0_1, .int .i64 a0_2, .string a0_3, .int .i64 a0_4, .bool a0_5]) (t := 28) ?hr ?_; (case hd => rfl); (case hg => rfl); (case hr => first | (go_simp; done) | (go_simp; rfl)); intro gb331 hg w32 hbox hb; have n0_ := Aside0.mk (below_step kz8_1 hb); have n1_ := Aside0.mk (hbox); have n2_ := Aside0.mk ((by rw [hg]; exact (below_size kz8_1) : w.heap.size ≤ gb331)); have n3_ := Aside0.mk ((by rw [hg]; exact (below_size kz8_1) : w.heap.size ≤ gb331)); clear HB; have HB := n0_; have BK331 := n1_; have GW331 := n2_; have GE331 := n3_; clear n0_ n1_ n2_ n3_; clear hb hbox hg; have hcz33_0 : w32.cell? ⟨gb331, 0, none⟩ = some (.int .i64 a0_0) := (blk_cell BK331.out 0).trans rfl; have hcz33_1 : w32.cell? ⟨gb331, 1, none⟩ = some (.int .i64 a0_1) := (blk_cell BK331.out 1).trans rfl; have hcz33_2 : w32.cell? ⟨gb331, 2, none⟩ = some (.int .i64 a0_2) := (blk_cell BK331.out 2).trans rfl; have hcz33_3 : w32.cell? ⟨gb331, 3, none⟩ = some (.string a0_3) := (blk_cell BK331.out 3).trans rfl; have hcz33_4 : w32.cell? ⟨gb331, 4, none⟩ = some (.int .i64 a0_4) := (blk_cell BK331.out 4).trans rfl; have hcz33_5 : w32.cell? ⟨gb331, 5, none⟩ = some (.bool a0_5) := (blk_cell BK331.out 5).trans rfl; have hfz33_0 := blk_frozen BK331.out 0; have hfz33_1 := blk_frozen BK331.out 1; have hfz33_2 := blk_frozen BK331.out 2; have hfz33_3 := blk_frozen BK331.out 3; have hfz33_4 := blk_frozen BK331.out 4; have hfz33_5 := blk_frozen BK331.out 5))
          go_ret
          exact ⟨by first | rfl | (simp [errW_none, errW_some] <;> rfl) | (simp [*, errW_none, errW_some] <;> rfl), by repeat (first | (with_reducible first | exact HB.out | apply below_alloc | apply pw_below_drewN | apply below_drew1 | refine below_set ?_ GE331.out) | exact HB.out)⟩

/-! ### tumbrelref01_two: function 73 -/
def tumbrelref01_two.f (a0 : Int) : Option (List Int) := some (([(a0 / 256) % 256, (a0) % 256] : List Int))
set_option maxHeartbeats 8000000 in
set_option maxRecDepth 100000 in
theorem tumbrelref01_two.calls (a0 : Int) (r : List Int) (w : World) (h : tumbrelref01_two.f a0 = some r) :
  Calls Try.prog 73 #[.int .u16 a0] w fun e w' => ∃ v0_ : Value, e = .returned (v0_) ∧ Kd.R (Kd.int .u8) 5 w' w.heap.size (fun _ => True) v0_ r ∧ Below w.heap.size w w' := by
 have HB := Aside0.mk (Below.refl w.heap.size w)
 have H : (some (([(a0 / 256) % 256, (a0) % 256] : List Int))) = some r := h
 clear h
 obtain ⟨y332, hy332⟩ : ∃ y_ : List Int, y_ = (([(a0 / 256) % 256, (a0) % 256] : List Int)) := ⟨_, rfl⟩
 replace H : (some y332) = some r := by first | (rw [hy332]; with_reducible exact H) | (have H2_ := (Option.bind_some _ _).symm.trans H; rw [hy332]; with_reducible exact H2_) | (have H2_ := (Option.bind_some _ _).symm.trans H; with_reducible exact H2_) | with_reducible exact H | (rw [hy332]; exact H) | exact H
 have Ny332 := Aside0.mk hy332
 clear hy332
 obtain rfl := Option.some.inj H
 go_enter Try.func73, Try.ntmps73
 go_wp2_with (first | ((with_reducible refine gate_dst (N := 8) rfl ?_); refine Kd.R_lit (Kd.int .u8) _ 5 ?hg (N := 8) ?hd (xs := ([(a0 / 256) % 256, (a0) % 256] : List Int)) (inner := [.int .u8 ((a0 / 256) % 256), .int .u8 ((a0) % 256)]) (ok := fun _ => True) (okp := fun _ => True) ?hr ?hp (fun _ hk => hk) trivial (Below.refl _ _) (Nat.le_refl _) (by simp) ?_; (case hd => rfl); (case hg => rfl); (case hr => first | (go_simp; done) | (go_simp; rfl)); (case hp => exact (Reps.one (show Kd.M (Kd.int .u8) _ _ _ ((a0 / 256) % 256) [.int .u8 ((a0 / 256) % 256)] from rfl) (Reps.one (show Kd.M (Kd.int .u8) _ _ _ ((a0) % 256) [.int .u8 ((a0) % 256)] from rfl) (Reps.none _ _)))); intro v333 w2 ho3 hb hg_ hnew_; clear hg_ hnew_; (first | rw [← Ny332.out] at ho3 | (simp only [Int.reduceToNat] at ho3; rw [← Ny332.out] at ho3)); have n0_ := Aside0.mk (Kd.R_lower ho3 (below_size kz8_1)); have n1_ := Aside0.mk (below_step kz8_1 hb); clear HB; have HO334 := n0_; have HB := n1_; clear n0_ n1_; clear hb ho3))
 go_ret
 exact ⟨_, by first | rfl | (simp [errW_none, errW_some] <;> rfl) | (simp [*, errW_none, errW_some] <;> rfl), by (with_reducible repeat (first | apply Kd.R_alloc | apply Kd.R_drewN | apply Kd.R_drew)); exact HO334.out, by repeat (first | (with_reducible first | exact HB.out | apply below_alloc | apply pw_below_drewN | apply below_drew1) | exact HB.out)⟩

/-! ### tumbrelref01_Sum: function 74 -/
mutual
def tumbrelref01_Sum.l0 : Nat → List Int → Int → Int → Int → Option (Int)
 | 0, _, _, _, _ => none
 | k + 1, x0, x3, x6, x7 => if x7 < x6 then (if 0 ≤ x7 then (if x7 < (x0.length : Int) then (tumbrelref01_Sum.l1 k x0 (Go.bits .xor .u16 x3 (IntKind.u16.wrap ((IntKind.u16.wrap (rd x0 x7)) * 256))) x6 x7 0) else (none)) else (none)) else (some x3)
def tumbrelref01_Sum.l1 : Nat → List Int → Int → Int → Int → Int → Option (Int)
 | 0, _, _, _, _, _ => none
 | k + 1, x0, x3, x6, x7, x18 => if x18 < 8 then (if (Go.bits .and .u16 x3 32768) = 0 then (tumbrelref01_Sum.l1 k x0 (IntKind.u16.wrap (x3 * 2)) x6 x7 (wrap64 (x18 + 1))) else (tumbrelref01_Sum.l1 k x0 (Go.bits .xor .u16 (IntKind.u16.wrap (x3 * 2)) 4129) x6 x7 (wrap64 (x18 + 1)))) else (tumbrelref01_Sum.l0 k x0 x3 x6 (wrap64 (x7 + 1)))
end
def tumbrelref01_Sum.f (k : Nat) (l0 : List Int) : Option (Int) := tumbrelref01_Sum.l0 k l0 65535 (l0.length : Int) 0
theorem tumbrelref01_Sum.mono_l : ∀ k, (∀ y0 y1 y2 y3, LeO (tumbrelref01_Sum.l0 k y0 y1 y2 y3) (tumbrelref01_Sum.l0 (k + 1) y0 y1 y2 y3)) ∧ (∀ y0 y1 y2 y3 y4, LeO (tumbrelref01_Sum.l1 k y0 y1 y2 y3 y4) (tumbrelref01_Sum.l1 (k + 1) y0 y1 y2 y3 y4))
 | 0 => ⟨fun _ _ _ _ r h => by simp [tumbrelref01_Sum.l0] at h, fun _ _ _ _ _ r h => by simp [tumbrelref01_Sum.l1] at h⟩
 | k + 1 => by
  obtain ⟨ih0, ih1⟩ := tumbrelref01_Sum.mono_l k
  refine ⟨?_, ?_⟩
  ·intro y0 y1 y2 y3
   unfold tumbrelref01_Sum.l0
   repeat' first
   | (with_reducible exact ih0 _ _ _ _)
   | (with_reducible exact ih1 _ _ _ _ _)
   | (with_reducible exact LeO.refl _)
   | (with_reducible exact LeO.none _)
   | (with_reducible refine LeO.ite ?_ ?_)
   | (with_reducible refine LeO.bind ?_ (fun _ => ?_))
   | exact ih0 _ _ _ _
   | exact ih1 _ _ _ _ _
   | exact LeO.none _
   | refine LeO.ite ?_ ?_
   | refine LeO.bind ?_ (fun _ => ?_)
  ·intro y0 y1 y2 y3 y4
   unfold tumbrelref01_Sum.l1
   repeat' first
   | (with_reducible exact ih0 _ _ _ _)
   | (with_reducible exact ih1 _ _ _ _ _)
   | (with_reducible exact LeO.refl _)
   | (with_reducible exact LeO.none _)
   | (with_reducible refine LeO.ite ?_ ?_)
   | (with_reducible refine LeO.bind ?_ (fun _ => ?_))
   | exact ih0 _ _ _ _
   | exact ih1 _ _ _ _ _
   | exact LeO.none _
   | refine LeO.ite ?_ ?_
   | refine LeO.bind ?_ (fun _ => ?_)
theorem tumbrelref01_Sum.mono : ∀ a0 k, LeO (tumbrelref01_Sum.f k a0) (tumbrelref01_Sum.f (k + 1) a0) := by
 intro a0 k
 obtain ⟨ih0, ih1⟩ := tumbrelref01_Sum.mono_l k
 unfold tumbrelref01_Sum.f
 repeat' first
   | (with_reducible exact ih0 _ _ _ _)
   | (with_reducible exact ih1 _ _ _ _ _)
   | (with_reducible exact LeO.refl _)
   | (with_reducible exact LeO.none _)
   | (with_reducible refine LeO.ite ?_ ?_)
   | (with_reducible refine LeO.bind ?_ (fun _ => ?_))
   | exact ih0 _ _ _ _
   | exact ih1 _ _ _ _ _
   | exact LeO.none _
   | refine LeO.ite ?_ ?_
   | refine LeO.bind ?_ (fun _ => ?_)
set_option maxHeartbeats 8000000 in
set_option maxRecDepth 100000 in
theorem tumbrelref01_Sum.calls (k : Nat) (A0 : Option Addr) (c0 : Nat) (l0 : List Int) (r : Int) (w : World) (hr0 : Kd.C (Kd.int .u8) w A0 l0.length l0) (hc0 : l0.length ≤ c0) (h : tumbrelref01_Sum.f k l0 = some r) :
  Calls Try.prog 74 #[.slice A0 l0.length c0] w fun e w' => e = .returned (.int .u16 r) ∧ Drawn0 w w' := by
 have HR0 := Aside0.mk hr0
 have HC0 := Aside0.mk hc0
 clear hr0 hc0
 have H : (tumbrelref01_Sum.l0 k l0 65535 (l0.length : Int) 0) = some r := h
 clear h
 have H' := Aside0.mk H
 clear H
 go_enter Try.func74, Try.ntmps74
 go_wp2
 go_loopg [3, 7] k (fun kq v3 v7 w' => ∃ (x3_1 : Int) (x7_1 : Int), v3 = .int .u16 x3_1 ∧ v7 = .int .i64 x7_1 ∧ Aside0 (tumbrelref01_Sum.l0 kq l0 x3_1 (l0.length : Int) x7_1 = some r) ∧ Aside0 (kq ≤ k) ∧ Drawn0 w w')
 case atStart => exact ⟨(65535), (0), kz8_2, kz8_2, H', ⟨Nat.le_refl _⟩, by repeat (first | exact Drawn0.refl _ | apply Drawn0.step)⟩
 case round =>
  clear H'
  obtain ⟨x3_1, x7_1, rfl, rfl, HA, HK1, ⟨m1, rfl⟩⟩ := hrel
  cases gk with
  | zero => exact absurd HA.out (by simp [tumbrelref01_Sum.l0])
  | succ k1 =>
   have H := HA.out
   clear HA
   simp only [tumbrelref01_Sum.l0] at H
   by_cases c2 : x7_1 < (l0.length : Int)
   ·rw [if_pos c2] at H
    have c2b0 : decide (x7_1 < (l0.length : Int)) = true := decide_eq_true c2
    clear c2
    by_cases c3 : 0 ≤ x7_1
    ·rw [if_pos c3] at H
     have c3b0 : decide (0 ≤ x7_1) = true := decide_eq_true c3
     clear c3
     by_cases c4 : x7_1 < (l0.length : Int)
     ·rw [if_pos c4] at H
      have c4b0 : decide (x7_1 < (l0.length : Int)) = true := decide_eq_true c4
      clear c4
      have H' := Aside0.mk H
      clear H
      have p335 : 0 ≤ (x7_1 : Int) := of_decide_eq_true (by first | (with_reducible assumption) | assumption)
      have q335 : x7_1 < (l0.length : Int) := of_decide_eq_true (by first | (with_reducible assumption) | assumption)
      obtain ⟨ad335, e335, hx335_0⟩ := Kd.at_int HR0.out x7_1 p335 q335
      cases e335
      replace p335 := eq_true p335
      replace q335 := eq_true q335
      go_wp2
      go_loopg [3, 18] k1 (fun kq v3 v18 w' => ∃ (x3_2 : Int) (x18_2 : Int), v3 = .int .u16 x3_2 ∧ v18 = .int .i64 x18_2 ∧ Aside0 (tumbrelref01_Sum.l1 kq l0 x3_2 (l0.length : Int) x7_1 x18_2 = some r) ∧ Aside0 (kq ≤ k1) ∧ Drawn0 w w')
      case atStart => exact ⟨(Go.bits .xor .u16 x3_1 (IntKind.u16.wrap ((IntKind.u16.wrap (rd l0 x7_1)) * 256))), (0), kz8_2, kz8_2, H', ⟨Nat.le_refl _⟩, by repeat (first | exact Drawn0.refl _ | apply Drawn0.step)⟩
      case round =>
       clear H'
       try clear c2
       try clear c2b0
       try clear p2
       try clear c3
       try clear c3b0
       try clear p3
       try clear q3
       try clear hx3
       try clear c4
       try clear c4b0
       try clear hx335_0
       try clear p335
       try clear q335
       obtain ⟨x3_2, x18_2, rfl, rfl, HA, HK2, ⟨m2, rfl⟩⟩ := hrel
       cases gk with
       | zero => exact absurd HA.out (by simp [tumbrelref01_Sum.l1])
       | succ k2 =>
        have H := HA.out
        clear HA
        simp only [tumbrelref01_Sum.l1] at H
        by_cases c5 : x18_2 < 8
        ·rw [if_pos c5] at H
         have c5b0 : decide (x18_2 < 8) = true := decide_eq_true c5
         clear c5
         by_cases c6 : (Go.bits .and .u16 x3_2 32768) = 0
         ·rw [if_pos c6] at H
          have c6b0 : ((Go.bits .and .u16 x3_2 32768) == 0) = true := beq_iff_eq.mpr c6
          have c6b1 : ((Go.bits .and .u16 x3_2 32768) != 0) = false := bne_eq_false_iff_eq.mpr c6
          clear c6
          have H' := Aside0.mk H
          clear H
          go_wp2
          go_roundg k2
          case measure => have := HK1.out; have := HK2.out; omega
          case rel => exact ⟨(IntKind.u16.wrap (x3_2 * 2)), (wrap64 (x18_2 + 1)), kz8_2, kz8_2, H', ⟨by have := HK1.out; have := HK2.out; omega⟩, by repeat (first | exact Drawn0.refl _ | apply Drawn0.step)⟩
         ·rw [if_neg c6] at H
          have c6b0 : ((Go.bits .and .u16 x3_2 32768) == 0) = false := beq_eq_false_iff_ne.mpr c6
          have c6b1 : ((Go.bits .and .u16 x3_2 32768) != 0) = true := bne_iff_ne.mpr c6
          have H' := Aside0.mk H
          clear H
          go_wp2
          go_roundg k2
          case measure => have := HK1.out; have := HK2.out; omega
          case rel => exact ⟨(Go.bits .xor .u16 (IntKind.u16.wrap (x3_2 * 2)) 4129), (wrap64 (x18_2 + 1)), kz8_2, kz8_2, H', ⟨by have := HK1.out; have := HK2.out; omega⟩, by repeat (first | exact Drawn0.refl _ | apply Drawn0.step)⟩
        ·rw [if_neg c5] at H
         have c5b0 : decide (x18_2 < 8) = false := decide_eq_false c5
         clear c5
         have H' := Aside0.mk H
         clear H
         go_wp2
         go_roundg k2
         case measure => have := HK1.out; have := HK2.out; omega
         case rel => exact ⟨(x3_2), (wrap64 (x7_1 + 1)), kz8_2, kz8_2, H', ⟨by have := HK1.out; have := HK2.out; omega⟩, by repeat (first | exact Drawn0.refl _ | apply Drawn0.step)⟩
     ·rw [if_neg c4] at H
      exact absurd H (by simp)
    ·rw [if_neg c3] at H
     exact absurd H (by simp)
   ·rw [if_neg c2] at H
    have c2b0 : decide (x7_1 < (l0.length : Int)) = false := decide_eq_false c2
    clear c2
    obtain rfl := Option.some.inj H
    go_wp2
    go_ret
    exact ⟨by first | rfl | (simp; done) | (simp [*]; done), by repeat (first | exact Drawn0.refl _ | apply Drawn0.step)⟩

end Go.Proofs.Ytdglbiafpofeeaa.POutboxDecodes
