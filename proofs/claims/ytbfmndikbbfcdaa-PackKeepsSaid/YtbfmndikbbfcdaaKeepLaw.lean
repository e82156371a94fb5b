/- PackKeeps, walked. -/
import Derived.Test.YtbfmndikbbfcdaaPurePackKeeps
import Derived.Test.YtbfmndikbbfcdaaMake0
import Derived.WalkSpells
import Derived.WalkKit
import Derived.Outline
import Derived.Deep.DeepCutAuto
namespace Go.Proofs.Ytbfmndikbbfcdaa.Kps
open Go.RowKit Go.Proofs.YtbfmndikbbfcdaaW.PrintWords Go.Proofs.YtbfmndikbbfcdaaW.PrintLast Go.Proofs.YtbfmndikbbfcdaaW.PrintMore Go.Proofs.Ytbfmndikbbfcdaa.PPackKeeps
set_option linter.unusedVariables false
set_option linter.unusedSimpArgs false
theorem number_calls (A : Option Addr) (c : Nat) (l : List Int) (n : Int) (hl : l.length + 16 ≤ 140737488355328) (w : World) (P0 : Nat → Prop) (hV : Kd.V (Kd.int .u8) 5 w w.heap.size (fun k => P0 k) (.slice A l.length c) l) :
    Calls Try.prog 23 #[.slice A l.length c, .int .i64 n] w fun e w' => ∃ v, e = .returned v ∧ Kd.R (Kd.int .u8) 5 w' w.heap.size (fun _ => True) v (l ++ Pk.number n) ∧ Below w.heap.size w w' := by
  obtain ⟨k, hk⟩ := Pure.ev_at (Pure.number_f l n hl)
  refine (pack_Number.calls k P0 A c l n _ w hV hk).mono ?_
  rintro e w' ⟨v, rfl, hR, hB⟩
  exact ⟨v, rfl, Kd.R_mono hR (fun _ _ => trivial), hB⟩
theorem text_calls (A : Option Addr) (c : Nat) (l : List Int) (s : ByteArray) (hl : l.length + s.size + 100 ≤ 140737488355328) (w : World) (hC : Kd.C (Kd.int .u8) w A l.length l) (hc : l.length ≤ c) :
    Calls Try.prog 25 #[.slice A l.length c, .string s] w fun e w' => ∃ v, e = .returned v ∧ Kd.R (Kd.int .u8) 5 w' w.heap.size (fun _ => True) v (l ++ Pk.text s) ∧ Below w.heap.size w w' := by
  obtain ⟨k, hk⟩ := Pure.ev_at (Pure.text_f l s hl)
  exact pack_Text.calls k A c l s _ w hC hc hk
theorem info5 : (Try.prog.info? 5).map (fun i => (i.zero, i.size, i.bytes)) = some (some (.int .u8 0), 1, 1) := by kernel_rfl
def enc (zs : List Int) : List Value := zs.map (Value.int .u8)
theorem made_eq (k : Nat) : madeCells #[Value.int .u8 0] k = (enc (List.replicate k 0)).toArray := by
  apply Array.ext
  · simp [size_madeCells, enc]
  · intro i h1 h2
    have e : i % 1 = 0 := Nat.mod_one i
    simp [madeCells, enc, e]
theorem C_blk {w : World} {g e : Nat} {zs : List Int} (h : w.heap[g]? = some (.cells (enc zs).toArray e (0, 0))) (hm : zs.length ≤ 9223372036854775807) : Kd.C (Kd.int .u8) w (some ⟨g, 0, none⟩) zs.length zs := by
  refine ⟨rfl, hm, fun _ => ⟨_, rfl, fun j p hj => ⟨[.int .u8 p], rfl, rfl, fun i u hu => ?_⟩⟩⟩
  obtain ⟨hi, hv⟩ : i = 0 ∧ Value.int .u8 p = u := by
    cases i with
    | zero => exact ⟨rfl, by simpa using hu⟩
    | succ i => simp at hu
  subst hi; subst hv
  rw [add_plain, blk_cell h]
  have hs : (Kd.int .u8).sz = 1 := rfl
  rw [hs, Nat.mul_one, Nat.add_zero]
  simp [enc, hj]
theorem V_blk {w : World} {g e n cap : Nat} {zs ys : List Int} (h : w.heap[g]? = some (.cells (enc zs).toArray e (0, 0))) (hm : zs.length ≤ 9223372036854775807) (hy : zs.take ys.length = ys) (hc : ys.length ≤ cap) :
    Kd.V (Kd.int .u8) 5 w w.heap.size (fun k => k = g) (.slice (some ⟨g, 0, none⟩) ys.length cap) ys := by
  refine ⟨_, _, rfl, hc, fun W' hW => ?_⟩
  have hb : W'.heap[g]? = some (.cells (enc zs).toArray e (0, 0)) := (hW g rfl (blk_lt h)).trans h
  have hle : ys.length ≤ zs.length := by have := congrArg List.length hy; rw [List.length_take] at this; omega
  have := Kd.C_take (C_blk hb hm) hle
  rw [hy] at this
  exact this
theorem copy_raw {P : Program} {W : World} {ops : Array Oper} {rest : List Oper} {o : Oper} {a : Act} {Q : Exit → Act → World → Prop} (hgd : o.guard = none) (s x : Operand) (t t' e : TypeId)
    (ho : o.op = .call { callee := .builtin .copy, args := #[s, x], argTypes := #[t, t'] }) (ht : P.underlying t = some (.slice e)) (hinfo : (P.info? e).map (·.size) = some 1)
    (g cap : Nat) (ys zs : List Int) (A : Option Addr) (c : Nat) (hs : a.eval s = .slice (some ⟨g, 0, none⟩) ys.length cap) (hx : a.eval x = .slice A ys.length c)
    (hC : Kd.C (Kd.int .u8) W A ys.length ys) (hb : W.heap[g]? = some (.cells (enc zs).toArray e (0, 0))) (hz : ys.length ≤ zs.length)
    (h : ∀ w1, w1.heap[g]? = some (.cells (enc (ys ++ zs.drop ys.length)).toArray e (0, 0)) → W.grownBy w1 (some g) → wpList P ops Q rest (a.put o.dst (.int .i64 (ys.length : Int))) w1) :
    wpList P ops Q (o :: rest) a W := by
  have fin : ∀ w1, (Builtin.copy_ #[t, t'] o.type #[.slice (some ⟨g, 0, none⟩) ys.length cap, .slice A ys.length c]).run P W = .ok (goInt (ys.length : Int)) w1 → w1.heap[g]? = some (.cells (enc (ys ++ zs.drop ys.length)).toArray e (0, 0)) → W.grownBy w1 (some g) → wpList P ops Q (o :: rest) a W := by
    intro w1 hr hrow hg
    refine wpList_plain hgd fun K hK => ?_
    unfold Oper.wp execOp
    simp only [ho, resolve, invoke, builtin, Sem.run_bind, Sem.run_pure, Result.andThen_ok, List.map_toArray, List.map_cons, List.map_nil, hs, hx, hr]
    exact hK _ _ (h w1 hrow hg)
  rcases Nat.eq_zero_or_pos ys.length with h0 | hp
  · have hy : ys = [] := List.eq_nil_of_length_eq_zero h0
    subst hy
    refine fin W ?_ (by simpa using hb) (World.grownBy.refl W _)
    exact run_copy_none W t t' o.type e _ A 0 cap 0 c ht hinfo rfl
  · obtain ⟨ad, hA, hc⟩ := hC.2.2 hp
    have hsrc : ∀ j u, (enc ys)[j]? = some u → W.cell? (ad.add j) = some u := by
      intro j u hu
      obtain ⟨p, hp2, rfl⟩ : ∃ p, ys[j]? = some p ∧ Value.int .u8 p = u := by
        simp only [enc, List.getElem?_map, Option.map_eq_some_iff] at hu
        exact hu
      obtain ⟨cs, _, hK, hcell⟩ := hc j p hp2
      obtain rfl : cs = _ := hK
      have := hcell 0 _ rfl
      have hs1 : (Kd.int .u8).sz = 1 := rfl
      rw [hs1, Nat.mul_one, Nat.add_zero] at this
      exact this
    have hkl : (enc ys).length = ys.length := by simp [enc]
    have hr := run_copy_cells (P := P) W t t' o.type e g 0 ys.length cap ad ys.length c (enc ys) ht hinfo (by rw [hkl]; exact (Nat.min_self _).symm) hsrc
      (fun j hj => by rw [blk_cell hb]; simp [enc]; omega) (fun j _ => blk_frozen hb _) (by intro u hu; simp only [enc, List.mem_map] at hu; obtain ⟨q, _, rfl⟩ := hu; rfl)
    obtain ⟨cur', h3, h4, h5⟩ := setCells_row (enc ys) 0 W (enc zs).toArray hb (by rw [hkl]; simp [enc]; omega)
    obtain ⟨s1, s2, s3, s4⟩ := setCells_same g (enc ys) 0 W
    have e1 : cur' = (enc (ys ++ zs.drop ys.length)).toArray := by
      apply Array.ext'
      rw [h5, hkl]
      simp [enc]
    rw [e1] at h3
    exact fin _ (by rw [hA, hr, hkl]) h3 ⟨s1, s2, s3, by rw [s4]; exact Nat.le_refl _, fun k _ hk => setCells_far _ _ k (fun he => hk (by rw [he]))⟩
theorem C_of_R {w : World} {base : Nat} {ok : Nat → Prop} {A : Option Addr} {n c : Nat} {x : List Int} (h : Kd.R (Kd.int .u8) 5 w base ok (.slice A n c) x) : Kd.C (Kd.int .u8) w A n x ∧ n ≤ c ∧ n = x.length := by
  obtain ⟨A3, c3, e3, hl3, hC3⟩ := Kd.R_reads h
  cases e3
  exact ⟨hC3, hl3, rfl⟩
set_option maxHeartbeats 4000000 in
set_option maxRecDepth 100000 in
theorem keeps_calls (A : Option Addr) (c : Nat) (l : List Int) (n : Int) (hl : l.length ≤ 140737488351232) (w : World) (hC : Kd.C (Kd.int .u8) w A l.length l) (hc : l.length ≤ c) :
    Calls Try.prog 9 #[.slice A l.length c, .int .i64 n] w fun e w' => e = .returned (.bool true) ∧ Below w.heap.size w w' := by
  have hC' := Aside0.mk hC
  obtain ⟨i0, hi0, hz0⟩ := Option.map_eq_some_iff.1 info5
  simp only [Prod.mk.injEq] at hz0
  have hmk := fun W : World => run_make (P := Try.prog) (w := W) 22 5 i0 (.int .u8 0) Try.underlying22 hi0 hz0.1 .i64 .i64 (l.length : Int) ((l.length : Int) + 20) (by omega) (by omega) (by rw [hz0.2.2]; omega) (by omega)
  rw [hz0.2.1, show ((l.length : Int)).toNat = l.length from by simp, show ((l.length : Int) + 20).toNat = l.length + 20 from by omega, Nat.mul_one, show (Value.int .u8 0).cells = #[Value.int .u8 0] from rfl, made_eq] at hmk
  clear hC hi0 hz0
  go_enter Try.func9, Try.ntmps9
  go_upto_region 3 with (first
    | ((with_reducible refine gate_builtin (b := .copy) (xs := #[.tmp 16, .tmp 17]) rfl ?_)
       refine copy_raw rfl (.tmp 16) (.tmp 17) 22 22 5 rfl Try.underlying22 (by kernel_rfl) w.heap.size (l.length + 20) l (List.replicate (l.length + 20) 0) A c rfl rfl (Kd.C_below hC'.out (below_alloc (Below.refl _ _) _)) (blk_new _ _) (by simp) ?_
       intro w1 hb1 hg1)
    | fail)
  rw [show (List.replicate (l.length + 20) (0 : Int)).drop l.length = List.replicate 20 0 from by simp] at hb1
  have hB1 : Aside0 (Below w.heap.size w w1) := ⟨pw_below_grown (below_alloc (Below.refl _ _) _) _ (by simp) hg1 (fun k e => by cases e; exact Nat.le_refl _)⟩
  have hs1 : w.heap.size < w1.heap.size := by have := hg1.size; simp at this; omega
  have hzl : (l ++ List.replicate 20 (0 : Int)).length = l.length + 20 := by simp
  have hb1' := Aside0.mk hb1
  have hV1 := Aside0.mk (V_blk (n := 0) (ys := l) (cap := l.length + 20) hb1 (by omega) (by simp) (by omega))
  clear hb1 hg1 hmk
  go_wp2_with fail
  refine (number_calls (some ⟨w.heap.size, 0, none⟩) (l.length + 20) l n (by omega) w1 _ hV1.out).mono ?_
  rintro e w2 ⟨v2, rfl, hR2, hb2⟩
  obtain ⟨ch, r, hnum, hr8⟩ := Pure.number_some n
  rw [hnum] at hR2
  obtain ⟨g2, cap2, rfl, hg2, hgl2, _⟩ := Kd.R_form hR2 (by simp; omega)
  have hxl : (l ++ ch :: r).length = l.length + r.length + 1 := by simp; omega
  rw [hxl] at hR2
  rw [hxl]
  have hR2' := Aside0.mk hR2
  have hb2' := Aside0.mk hb2
  have hs2 : w1.heap.size ≤ w2.heap.size := hb2.size
  have hbk2 := Aside0.mk (blk_below hb1'.out hb2)
  clear hR2 hb2 hnum
  go_wp2_with fail
  have hC2 := Kd.C_take (C_blk hbk2.out (by omega)) (m := l.length) (by omega)
  rw [show (l ++ List.replicate 20 (0 : Int)).take l.length = l from by simp] at hC2
  refine (text_calls (some ⟨w.heap.size, 0, none⟩) (l.length + 20) l Pure.ab (by show l.length + 2 + 100 ≤ _; omega) w2 hC2 (by omega)).mono ?_
  rintro e w3 ⟨v3, rfl, hR3, hb3⟩
  obtain ⟨A3, c3, rfl⟩ := Kd.R_slice hR3
  have hyl : (l ++ Pk.text Pure.ab).length = l.length + 4 := by rw [List.length_append, Pure.ab_length]
  rw [hyl]
  have hb3' := Aside0.mk hb3
  have hs3 : w2.heap.size ≤ w3.heap.size := hb3.size
  have hbk3 := blk_below hbk2.out hb3
  have hR3x := Kd.R_below hR2'.out hb3
  have hbk3' := Aside0.mk hbk3
  have hR3x' := Aside0.mk hR3x
  have hC3 := C_blk hbk3 (by omega)
  rw [hzl] at hC3
  have hC3' := Aside0.mk hC3
  have hcut : ∀ W : World, (Instr.slice 22 (.slice (some ⟨w.heap.size, 0, none⟩) l.length (l.length + 20)) none (some (.int .i64 ((l.length : Int) + 20))) none).run Try.prog W = .ok (.slice (some ⟨w.heap.size, 0, none⟩) (l.length + 20) (l.length + 20)) W := by
    intro W
    obtain ⟨i0, hi0, hz0⟩ := Option.map_eq_some_iff.1 info5
    simp only [Prod.mk.injEq] at hz0
    rw [run_slice_h W 22 (some ⟨w.heap.size, 0, none⟩) l.length (l.length + 20) (by rw [show Try.prog.elem 22 = 5 from by simp [Program.elem, Try.underlying22]]; exact Try.underlying22) .i64 ((l.length : Int) + 20) (by omega) (by omega)]
    rw [show Try.prog.elem 22 = 5 from by simp [Program.elem, Try.underlying22]]
    simp [sizeOf, typeInfo, hi0, sliced, Result.andThen, Addr.add]
    omega
  clear hR3 hb3 hbk3 hR3x hC3 hyl hxl hzl
  go_wp2_with fail
  go_loopg [9] 21 (fun kq v9 w' => ∃ (i : Nat), v9 = .int .i64 (i : Int) ∧ Aside0 (l.length ≤ i) ∧ Aside0 (kq + i = l.length + 21) ∧ Aside0 (i ≤ l.length + 20) ∧ w' = w3)
  case atStart => exact ⟨l.length, rfl, ⟨Nat.le_refl _⟩, ⟨by omega⟩, ⟨by omega⟩, rfl⟩
  case round =>
    obtain ⟨i, rfl, hi0, hk, hi, rfl⟩ := hrel
    by_cases hlt : i < l.length + 20
    · have hd : decide ((i : Int) < (l.length : Int) + 20) = true := decide_eq_true (by omega)
      have hd' : decide (i < l.length + 20) = true := decide_eq_true hlt
      cases gk with
      | zero => exact absurd hk.out (by omega)
      | succ k1 =>
        have hlt' := Aside0.mk hlt
        have x0 : wr.cell? ⟨w.heap.size, i, none⟩ = some (.int .u8 0) := by
          rw [blk_cell hbk3'.out i]
          have h1 := hi0.out
          have h2 : (l ++ List.replicate 20 (0 : Int))[i]? = some 0 := by rw [List.getElem?_append_right h1, List.getElem?_replicate, if_pos (by omega)]
          simp only [enc, List.getElem?_toArray, List.getElem?_map, h2, Option.map_some]
        have hib : (i : Int) ≤ 140737488351252 := by omega
        go_wp2_with fail
        go_roundg k1
        case measure => have := hk.out; omega
        case rel => exact ⟨i + 1, by go_num, ⟨by have := hi0.out; omega⟩, ⟨by have := hk.out; omega⟩, ⟨by have := hlt'.out; omega⟩, rfl⟩
    · have hd : decide ((i : Int) < (l.length : Int) + 20) = false := decide_eq_false (by omega)
      have hd' : decide (i < l.length + 20) = false := decide_eq_false hlt
      obtain ⟨hc5, hz5⟩ := Kd.R_celln (0 : Int) hR3x'.out (0 : Int) (by omega) (by omega)
      obtain ⟨r0, hr0⟩ : ∃ r0, rdOf 0 (l ++ ch :: r) (0 : Int) = r0 := ⟨_, rfl⟩
      rw [hr0] at hc5
      rw [show ((0 : Int)).toNat = 0 from rfl] at hc5 hz5
      have hne : w.heap.size ≠ g2 := by omega
      have hbk4 := blk_far hbk3'.out (p := ⟨g2, 0, none⟩) hne (.int .u8 ((r0 + 1) % 256))
      have hB4 : Below w.heap.size w (wr.setCell ⟨g2, 0, none⟩ (.int .u8 ((r0 + 1) % 256))) := ((hB1.out.trans (hb2'.out.mono (by omega))).trans (hb3'.out.mono (by omega))).setCell (by simp; omega) _
      have hC4 := Kd.C_take (C_blk hbk4 (by simp; omega)) (m := l.length) (by simp)
      rw [show (l ++ List.replicate 20 (0 : Int)).take l.length = l from by simp] at hC4
      have s1 := Kd.C_string (c := l.length + 20) Try.underlying22 Try.underlying5 Try.underlying9 hC4
      have s2 := Kd.C_string (c := c) Try.underlying22 Try.underlying5 Try.underlying9 (Kd.C_below hC'.out hB4)
      have hB4' := Aside0.mk hB4
      clear hr0 hbk4 hB4 hC4
      go_wp2
      go_ret
      exact ⟨by simp, hB4'.out⟩
end Go.Proofs.Ytbfmndikbbfcdaa.Kps
