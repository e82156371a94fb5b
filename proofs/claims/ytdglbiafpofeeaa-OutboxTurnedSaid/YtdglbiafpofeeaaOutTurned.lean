/- OutboxTurned, walked. -/
import Derived.Test.YtdglbiafpofeeaaPureOutboxTurned
import Derived.Test.YtdglbiafpofeeaaWMore
import Derived.WalkSpells
import Derived.WalkKit
import Derived.Outline
import Derived.Deep.QuietTactic
import Derived.BigQuiet
namespace Go.Proofs.Ytdglbiafpofeeaa.OutT
open Go.RowKit Go.Proofs.YtdglbiafpofeeaaW.PrintWords Go.Proofs.YtdglbiafpofeeaaW.PrintLast Go.Proofs.YtdglbiafpofeeaaW.PrintMore Go.Proofs.Ytdglbiafpofeeaa.POutboxTurned
set_option linter.unusedVariables false
set_option linter.unusedSimpArgs false
structure S28 where
  f0 : Int
  f1 : Int
  f2 : Int
  f3 : ByteArray
  f4 : Int
  f5 : Bool
def z28 : S28 := ⟨(0 : Int), (0 : Int), (0 : Int), (⟨#[]⟩ : ByteArray), (0 : Int), false⟩
def k28 : Kd S28 := Kd.iso (Kd.pair (Kd.int .i64) (Kd.pair (Kd.int .i64) (Kd.pair (Kd.int .i64) (Kd.pair Kd.string (Kd.pair (Kd.int .i64) Kd.bool))))) (fun x : S28 => (x.f0, x.f1, x.f2, x.f3, x.f4, x.f5))
theorem k28_open {w : World} {x : S28} {cs : List Value} (h : k28.K w x cs) : cs = [.int .i64 x.f0, .int .i64 x.f1, .int .i64 x.f2, .string x.f3, .int .i64 x.f4, .bool x.f5] := by
  obtain ⟨_, _, rfl, rfl, ⟨_, _, rfl, rfl, ⟨_, _, rfl, rfl, ⟨_, _, rfl, rfl, ⟨_, _, rfl, rfl, rfl⟩⟩⟩⟩⟩ := h
  exact rfl
theorem k28_openM {w : World} {base : Nat} {ok : Nat → Prop} {x : S28} {cs : List Value} (h : k28.M w base ok x cs) : cs = [.int .i64 x.f0, .int .i64 x.f1, .int .i64 x.f2, .string x.f3, .int .i64 x.f4, .bool x.f5] := by
  obtain ⟨_, _, rfl, rfl, ⟨_, _, rfl, rfl, ⟨_, _, rfl, rfl, ⟨_, _, rfl, rfl, ⟨_, _, rfl, rfl, rfl⟩⟩⟩⟩⟩ := h
  exact rfl
theorem bcell {W w1 : World} (hb : Below W.heap.size W w1) : (∀ b o, b < W.heap.size → w1.cell? ⟨b, o, none⟩ = W.cell? ⟨b, o, none⟩) ∧ (∀ b o, b < W.heap.size → w1.frozen? ⟨b, o, none⟩ = W.frozen? ⟨b, o, none⟩) :=
  ⟨fun b o h => hb.cell (p := ⟨b, o, none⟩) h, fun b o h => hb.frozen (p := ⟨b, o, none⟩) h⟩
theorem wp_world {P : Program} {c : Code} {K : Exit → Act → World → Prop} {a : Act} {w : World} (h : ∀ W, W = w → Code.wp P c K a W) : Code.wp P c K a w := h w rfl
theorem awake_calls (w : World) : Calls Try.prog 22 #[] w fun e w' => e = .returned (.bool true) ∧ Below w.heap.size w w' := by
  obtain ⟨k, hk⟩ := Pure.ev_at Pure.awake_f
  exact tumbrellaw18_awake.calls k true w hk
theorem encode_calls (k i t : Int) (s : ByteArray) (a : Int) (o : Bool) (w : World) :
    Calls Try.prog 34 #[.agg #[.int .i64 k, .int .i64 i, .int .i64 t, .string s, .int .i64 a, .bool o]] w fun e w' => ∃ v0_ : Value, e = .returned (.tuple #[v0_, .int .i64 (Pure.encodeM k i t s a o).2]) ∧ Kd.R (Kd.int .u8) 5 w' w.heap.size (fun _ => True) v0_ (Pure.encodeM k i t s a o).1 ∧ Below w.heap.size w w' := by
  obtain ⟨n, hn⟩ := Pure.ev_at (Pure.encode_f k i t s a o)
  exact outbox_Encode.calls n k i t s a o _ _ w hn
theorem decode_calls (A : Option Addr) (n c : Nat) (l : List Int) (hl : l.length ≤ 140737488355328) (hb : Sl.Bytes l) (hn : l.length = n) (w : World) (hC : Kd.C (Kd.int .u8) w A n l) (hc : n ≤ c) (E : Int) (hE : Pure.errOf (Pure.decI l) = E) :
    Calls Try.prog 38 #[.slice A n c] w fun e w' => ∃ r1 r2 r3 r4 r5 r6, e = .returned (.tuple #[.agg #[.int .i64 r1, .int .i64 r2, .int .i64 r3, .string r4, .int .i64 r5, .bool r6], .int .i64 E]) ∧ Below w.heap.size w w' := by
  subst hn
  subst hE
  obtain ⟨k, hk⟩ := Pure.ev_at (Pure.decode_f l hl hb)
  refine (outbox_Decode.calls k A c l _ _ _ _ _ _ _ w hC hc hk).mono ?_
  rintro e w' ⟨rfl, h⟩
  exact ⟨_, _, _, _, _, _, rfl, h⟩
theorem info5 : (Try.prog.info? 5).map (fun i => (i.zero, i.size, i.bytes)) = some (some (.int .u8 0), 1, 1) := by kernel_rfl
theorem C_of_R {w : World} {base : Nat} {ok : Nat → Prop} {A : Option Addr} {n c : Nat} {x : List Int} (h : Kd.R (Kd.int .u8) 5 w base ok (.slice A n c) x) : Kd.C (Kd.int .u8) w A n x ∧ n ≤ c ∧ n = x.length := by
  obtain ⟨A3, c3, e3, hl3, hC3⟩ := Kd.R_reads h
  cases e3
  exact ⟨hC3, hl3, rfl⟩
theorem lit_row (W : World) : Kd.R (Kd.int .u8) 5 (W.alloc (.cells #[] 5)) W.heap.size (fun _ => True) (.slice (some ⟨W.heap.size, 0, none⟩) 0 0) [] := Kd.R_of_own (own_lit W W.heap.size 5 .u8 [] (Nat.le_refl _) (by simp)) (fun _ _ => trivial)
set_option maxHeartbeats 4000000 in
set_option maxRecDepth 100000 in
theorem turned_calls (k i t : Int) (s : ByteArray) (a : Int) (o : Bool) (n : Nat) (hn : n ≤ 18446744073709551615) (y : Int) (hy : 0 ≤ y ∧ y < 256) (w : World) :
    Calls Try.prog 12 #[.agg #[.int .i64 k, .int .i64 i, .int .i64 t, .string s, .int .i64 a, .bool o], .int .u64 (n : Int), .int .u8 y] w fun e w' => e = .returned (.bool true) ∧ Below w.heap.size w w' := by
  by_cases hs : (1000 : Int) < (s.size : Int)
  · have d0 : decide ((1000 : Int) < (s.size : Int)) = true := decide_eq_true hs
    go_enter Try.func12, Try.ntmps12
    go_wp2_with fail
    refine (awake_calls _).mono ?_
    rintro e w1 ⟨rfl, hb1⟩
    obtain ⟨hc1, hf1⟩ := bcell hb1
    have hb1' : Aside0 (Below w.heap.size w w1) := ⟨below_step (below_alloc (Below.refl _ _) _) hb1⟩
    have hs1 : w.heap.size < w1.heap.size := by have := hb1.size; simp at this; omega
    go_wp2_with fail
    refine (awake_calls _).mono ?_
    rintro e w2 ⟨rfl, hb2⟩
    go_wp2
    go_ret
    exact ⟨rfl, below_step hb1'.out hb2⟩
  · have d0 : decide ((1000 : Int) < (s.size : Int)) = false := decide_eq_false hs
    go_enter Try.func12, Try.ntmps12
    go_wp2_with fail
    refine (awake_calls _).mono ?_
    rintro e w1 ⟨rfl, hb1⟩
    obtain ⟨hc1, hf1⟩ := bcell hb1
    have hb1' : Aside0 (Below w.heap.size w w1) := ⟨below_step (below_alloc (Below.refl _ _) _) hb1⟩
    have hs1 : w.heap.size < w1.heap.size := by have := hb1.size; simp at this; omega
    go_wp2_with fail
    refine (encode_calls k i t s a o _).mono ?_
    rintro e w2 ⟨v, rfl, hR2, hb2⟩
    have hb2' : Aside0 (Below w.heap.size w w2) := ⟨below_step hb1'.out hb2⟩
    have hs2 : w1.heap.size ≤ w2.heap.size := hb2.size
    clear hb2 hc1 hf1 hb1
    cases hf : Pure.formed k i t s a o with
    | false =>
      have e0 : Pure.encodeM k i t s a o = ([], 1) := if_neg (by rw [hf]; decide)
      rw [e0] at hR2 ⊢
      obtain ⟨A2, c2, rfl⟩ := Kd.R_slice hR2
      clear e0 hR2
      go_wp2
      go_ret
      exact ⟨rfl, hb2'.out⟩
    | true =>
      obtain ⟨b, e0, hb0, hbl, hbb, ht1, ht2, ht3⟩ := Pure.turned_facts k i t s a o hf
      rw [e0] at hR2 ⊢
      obtain ⟨g, cap, rfl, _, hgl, _⟩ := Kd.R_form hR2 hb0
      obtain ⟨j, hj, hwj⟩ : ∃ j : Nat, j < b.length ∧ wrap64 ((n : Int) % (b.length : Int)) = (j : Int) := ⟨n % b.length, Nat.mod_lt _ hb0, by
        have h1 : ((n % b.length : Nat) : Int) = (n : Int) % (b.length : Int) := by simp
        have h2 : n % b.length < b.length := Nat.mod_lt _ hb0
        rw [← h1]
        unfold wrap64
        omega⟩
      obtain ⟨hj1, hj2⟩ := ht1 j hj y hy
      have hj3 := ht2 j hj
      have hj4 := ht3 y
      obtain ⟨E1, hE1⟩ : ∃ E1, Pure.errOf (Pure.decI (b.set j (Go.bits .xor .u8 b[j] y))) = E1 := ⟨_, rfl⟩
      rw [hE1] at hj1
      have hj1' := Aside0.mk hj1
      have hE1' := Aside0.mk hE1
      have hj2' := Aside0.mk hj2
      have hj3' := Aside0.mk hj3
      have hj4' := Aside0.mk hj4
      have hbb' := Aside0.mk hbb
      have hR2' := Aside0.mk hR2
      have hget : Aside0 (rdOf 0 b (j : Int) = b[j]) := ⟨by simp [rdOf, List.getD_eq_getElem?_getD, hj]⟩
      have hd0 : ((b.length : Int) == 0) = false := by rw [beq_eq_false_iff_ne]; omega
      obtain ⟨r0, hr0⟩ : ∃ r0, b[j] = r0 := ⟨_, rfl⟩
      rw [hr0] at hget
      have hr0' := Aside0.mk hr0
      clear e0 hR2 ht1 ht2 ht3 hj1 hE1 hj2 hj3 hj4 hf hbb hr0
      have hRl := Aside0.mk (lit_row w2)
      go_upto_region 8 with (first
        | ((with_reducible refine gate_builtin (b := .append) (xs := #[.tmp 46, .tmp 47]) rfl ?_); at_builtin
           refine Kd.R_append_row (Value.int .u8) 0 (w0 := w2) w2.heap.size rfl (.tmp 46) (.tmp 47) 50 5 (.int .u8 0) 1 rfl Try.underlying50 info5 rfl (by decide) (.slice (some ⟨w2.heap.size, 0, none⟩) 0 0) [] b (some ⟨g, 0, none⟩) b.length cap (fun _ => True) rfl rfl (fun _ _ => trivial) hRl.out (Kd.C_below (C_of_R hR2'.out).1 (below_alloc (Below.refl _ _) _)) (below_alloc (Below.refl _ _) _) (by simp) (by simp; omega) ?_
           intro v4 w4 hR4 hB4 hg4 hat4
           rw [List.nil_append] at hR4
           obtain ⟨g4, cap4, e4, hg4b, hg4l, _⟩ := Kd.R_form hR4 hb0
           subst e4
           have hR4' := Aside0.mk hR4
           have hB4' := Aside0.mk hB4
           have hs4 : w2.heap.size ≤ w4.heap.size := hB4.size
           clear hg4 hat4 hR4 hB4)
        | fail)
      obtain ⟨hc5, hz5⟩ := Kd.R_cell (0 : Int) hR4'.out (j : Int) (by omega) (by omega)
      have hput := Kd.R_put hR4'.out (j : Int)
      rw [show ((j : Int)).toNat = j from by simp] at hc5 hz5 hput
      rw [hget.out] at hc5
      have hput' := Aside0.mk hput
      obtain ⟨i0, hi0, _⟩ := Option.map_eq_some_iff.1 info5
      have hcut := cut_to (P := Try.prog) 50 5 .i64 Try.underlying50 hi0 (some ⟨g, 0, none⟩) b.length cap (j : Int) (by omega) (by omega) (C_of_R hR2'.out).2.1
      rw [show ((j : Int)).toNat = j from by simp] at hcut
      clear hput hi0
      go_wp2_with fail
      obtain ⟨X, hX⟩ : ∃ X, Go.bits .xor .u8 r0 y = X := ⟨_, rfl⟩
      rw [hr0'.out, hX] at hj2' hE1'
      rw [hX]
      obtain ⟨hR5, _⟩ := hput'.out X
      have hB5 : Aside0 (Below w2.heap.size w2 (w4.setCell ⟨g4, j, none⟩ (.int .u8 X))) := ⟨hB4'.out.setCell (by simp; omega) _⟩
      have hsl : (b.set j X).length = b.length := by simp
      refine (decode_calls _ b.length cap4 (b.set j X) (by omega) hj2'.out hsl _ (by have := (C_of_R hR5).1; exact this) (C_of_R hR5).2.1 E1 hE1'.out).mono ?_
      rintro e w6 ⟨r1, r2, r3, r4, r5, r6, rfl, hb6⟩
      obtain ⟨W5, hW5⟩ : ∃ W5, w4.setCell ⟨g4, j, none⟩ (.int .u8 X) = W5 := ⟨_, rfl⟩
      rw [hW5] at hB5 hb6 hR5
      have hB6 : Aside0 (Below w2.heap.size w2 w6) := ⟨below_step hB5.out hb6⟩
      have hs6 : w2.heap.size ≤ w6.heap.size := hB6.out.size
      clear hW5 hR5 hb6 hc5 hz5 hsl
      go_wp2_with fail
      have hC7 := Kd.C_take (C_of_R (Kd.R_below hR2'.out (below_alloc hB6.out (.cells #[.int .i64 r1, .int .i64 r2, .int .i64 r3, .string r4, .int .i64 r5, .bool r6] 28)))).1 (m := j) (by omega)
      have htl : (b.take j).length = j := by rw [List.length_take]; omega
      rw [htl] at hC7
      refine (decode_calls _ j cap (b.take j) (by omega) (fun c hc => hbb'.out c (List.mem_of_mem_take hc)) htl _ hC7 (by have := (C_of_R hR2'.out).2.1; omega) 2 hj3'.out).mono ?_
      rintro e w7 ⟨q1, q2, q3, q4, q5, q6, rfl, hb7⟩
      have hB7 : Aside0 (Below w2.heap.size w2 w7) := ⟨below_step (below_alloc hB6.out _) hb7⟩
      have hs7 : w2.heap.size ≤ w7.heap.size := hB7.out.size
      clear hC7 hb7 htl
      go_upto_region 11 with fail
      refine wp_world (fun W8 hW8 => ?_)
      have hB8 : Aside0 (Below w2.heap.size w2 W8) := ⟨by rw [hW8]; repeat (first | exact hB7.out | refine below_alloc ?_ _ | refine below_drew ?_)⟩
      have hs8 : w2.heap.size ≤ W8.heap.size := hB8.out.size
      have hR8 := Aside0.mk (Kd.R_below hR2'.out hB8.out)
      clear hW8
      go_wp2_with (first
        | ((with_reducible refine gate_builtin (b := .append) (xs := #[.tmp 71, .tmp 72]) rfl ?_); at_builtin
           refine Kd.R_append_row (Value.int .u8) 0 (w0 := W8) W8.heap.size rfl (.tmp 71) (.tmp 72) 50 5 (.int .u8 0) 1 rfl Try.underlying50 info5 rfl (by decide) (.slice (some ⟨W8.heap.size, 0, none⟩) 0 0) [] b (some ⟨g, 0, none⟩) b.length cap (fun _ => True) rfl rfl (fun _ _ => trivial) (lit_row W8) (Kd.C_below (C_of_R hR8.out).1 (below_alloc (Below.refl _ _) _)) (below_alloc (Below.refl _ _) _) (by simp) (by simp; omega) ?_
           intro v9 w9 hR9 hB9 hg9 hat9
           rw [List.nil_append] at hR9
           have hR9' := Aside0.mk hR9
           have hB9' := Aside0.mk hB9
           have hs9 : W8.heap.size ≤ w9.heap.size := hB9.size
           clear hg9 hat9 hR9 hB9)
        | ((with_reducible refine gate_builtin (b := .append) (xs := #[.tmp 73, .tmp 75]) rfl ?_); at_builtin
           refine Kd.R_append (Kd.int .u8) (w0 := W8) W8.heap.size rfl (.tmp 73) (.tmp 75) 50 5 (.int .u8 0) 1 rfl Try.underlying50 info5 rfl (by decide) (by decide) v9 b y [.int .u8 y] (fun _ => True) (fun _ => False) rfl rfl rfl (fun _ hk => hk.elim) (fun _ _ => trivial) hR9'.out hB9'.out (by omega) (by omega) ?_
           intro v10 w10 hR10 hB10 hg10 hat10
           obtain ⟨A10, c10, e10⟩ := Kd.R_slice hR10
           rw [List.length_append, List.length_singleton] at e10
           subst e10
           have hR10' := Aside0.mk hR10
           have hB10' := Aside0.mk hB10
           clear hg10 hat10 hR10 hB10)
        | fail)
      have hyb : Sl.Bytes [y] := fun c hc => by rw [List.mem_singleton.1 hc]; exact hy
      refine (decode_calls A10 (b.length + 1) c10 (b ++ [y]) (by simp; omega) (hbb'.out.append hyb) (by simp) _ (C_of_R hR10'.out).1 (C_of_R hR10'.out).2.1 2 hj4'.out).mono ?_
      rintro e w11 ⟨x1, x2, x3, x4, x5, x6, rfl, hb11⟩
      have hB11 : Aside0 (Below w.heap.size w w11) := ⟨hb2'.out.trans ((hB8.out.trans ((below_step hB10'.out hb11).mono hs8)).mono hb2'.out.size)⟩
      clear hb11 hyb
      have hj1 := hj1'.out
      by_cases hy0 : y = 0
      · have hE0 : E1 = 0 := hj1.2 hy0
        subst hy0
        subst hE0
        go_wp2
        go_ret
        exact ⟨rfl, below_alloc hB11.out _⟩
      · have d1 : (y == 0) = false := by simpa using hy0
        have d2 : (E1 == 0) = false := by simpa using fun e => hy0 (hj1.1 e)
        clear hj1
        go_wp2
        go_ret
        exact ⟨rfl, below_alloc hB11.out _⟩
end Go.Proofs.Ytdglbiafpofeeaa.OutT
