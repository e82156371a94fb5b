/- DiskKeeps: what a crash leaves, as plain data; a script without fuses. -/
import Derived.Test.YtnplnelhodnonaaDkPlayLaw
import Derived.Test.YtnplnelhodnonaaSteps
import Derived.Deep.DeepCutAuto
import Derived.Deep.QuietTactic
import Derived.BigQuiet
namespace Go.Proofs.Ytnplnelhodnonaa.Dsk
open Go.RowKit Go.Proofs.YtnplnelhodnonaaW.PrintWords Go.Proofs.YtnplnelhodnonaaW.PrintLast Go.Proofs.YtnplnelhodnonaaW.PrintMore Go.Proofs.Ytnplnelhodnonaa.PDiskNil
open Amap Frm
set_option linter.unusedVariables false
set_option linter.unusedSimpArgs false
theorem cut_zero {keep : List Int} {i : Nat} {v : Sg} (h : stay keep i v = 0) : cut keep i v = ([], 0) := by
  unfold Dsk.cut
  rw [h, List.take_zero]
theorem sg_none {L : Sgs} {n : Int} (h : mlook L n = none) : sg L n = ([], 0) := by unfold sg; rw [h]; rfl
theorem sg_rcrash (keep : List Int) : ∀ (L : Sgs) (i : Nat), nd L → ∀ (j : Nat) (k : Int) (v : Sg), L[j]? = some (k, v) → sg (rcrashL keep i L) k = cut keep (i + j) v
  | [], _, _, j, k, v, h => by simp at h
  | p :: m, i, hn, j, k, v, h => by
    have hn' := List.nodup_cons.1 hn
    have hno : ∀ n, n ∉ m.map (·.1) → mlook (rcrashL keep (i + 1) m) n = none := fun n hm => mlook_none.2 (fun q hq e => hm ((rcrash_keys keep m (i + 1)).subset (List.mem_map.2 ⟨q, hq, e⟩)))
    cases j with
    | zero =>
      simp only [List.getElem?_cons_zero, Option.some.injEq] at h
      subst h
      unfold rcrashL
      by_cases h0 : stay keep i v = 0
      · rw [if_pos h0, sg_none (hno k hn'.1), Nat.add_zero, cut_zero h0]
      · rw [if_neg h0]
        unfold sg
        simp [mlook]
    | succ j =>
      simp only [List.getElem?_cons_succ] at h
      have hk : p.1 ≠ k := fun e => hn'.1 (List.mem_map.2 ⟨(k, v), List.mem_of_getElem? h, e.symm⟩)
      have ih := sg_rcrash keep m (i + 1) hn'.2 j k v h
      rw [show i + 1 + j = i + (j + 1) by omega] at ih
      unfold rcrashL
      by_cases h0 : stay keep i p.2 = 0
      · rw [if_pos h0]; exact ih
      · rw [if_neg h0]
        unfold sg
        rw [mlook, if_neg hk]
        exact ih
theorem after_crash {n : Nat} {S : DSt} {R : RSt} (h : Inv n S R) (keep : List Int) {j : Nat} {k : Int} {q : List Int} {sy : Nat} (hq : R.L[j]? = some (k, (q, sy))) :
    (sg (dcrash S keep).L k).2 = stay keep j (q, sy) ∧ dread (dcrash S keep) k = q.take (stay keep j (q, sy)) := by
  have h1 : sg (dcrash S keep).L k = cut keep j (q, sy) := by
    rw [(h.crash keep).sg]
    have h2 := sg_rcrash keep R.L 0 h.up.nd j k (q, sy) hq
    rw [Nat.zero_add] at h2
    exact h2
  refine ⟨by rw [h1]; rfl, ?_⟩
  unfold dread
  split
  · rw [h1]; rfl
  · rename_i hf
    have h2 : mlook (dcrash S keep).L k = none := by
      cases hm : mlook (dcrash S keep).L k with
      | none => rfl
      | some u =>
        refine absurd ?_ hf
        unfold dfind
        rw [if_neg (by simp [dcrash]), hm]
        rfl
    have h3 := sg_none h2
    rw [h1] at h3
    have h4 : q.take (stay keep j (q, sy)) = [] := congrArg Prod.fst h3
    rw [h4]
/-! ### no fuse -/
def Calm (R : RSt) : Prop := R.fuse < 0 ∧ R.dead = false
theorem Calm.burn {R : RSt} (h : Calm R) : rburn R = (R, true) := by unfold rburn; rw [if_neg (by have := h.1; omega), if_neg (by have := h.1; omega)]
theorem Calm.op {R : RSt} (h : Calm R) (o : Opr) (hk : o.kd < 4) : Calm (doR R o) := by
  have hb := h.burn
  unfold doR
  split
  · unfold rappend
    rw [hb]
    repeat' split
    all_goals exact h
  split
  · unfold rsync
    rw [hb]
    repeat' split
    all_goals exact h
  split
  · unfold rdrop
    rw [hb]
    repeat' split
    all_goals exact h
  rw [if_neg (by omega), if_neg (by omega), if_neg (by omega), if_neg (by omega)]
  exact h
theorem str_take (q : List Int) (st : Nat) (h : st ≤ q.length) : (strOfNums q).extract 0 st = strOfNums (q.take st) := by
  apply ByteArray.ext
  apply Array.ext'
  rw [strOfNums_data]
  simp [ByteArray.data_extract, strOfNums, List.map_take]
end Go.Proofs.Ytnplnelhodnonaa.Dsk
namespace Go.Proofs.Ytnplnelhodnonaa.Dsk
open Go.RowKit Go.Proofs.YtnplnelhodnonaaW.PrintWords Go.Proofs.YtnplnelhodnonaaW.PrintLast Go.Proofs.YtnplnelhodnonaaW.PrintMore Go.Proofs.Ytnplnelhodnonaa.PDiskNil
open Amap Frm
set_option linter.unusedVariables false
set_option linter.unusedSimpArgs false
theorem DAt.fr {ok : Nat → Prop} {w w1 : World} {p b b0 : Nat} {S : DSt} {M : Gss} (h : DAt ok w p S M b) (f : Fr [3, 9] false b0 w w1) : DAt ok w1 p S M b := by
  refine ⟨h.pk, f.same p _ h.blk (by simp [Still]), h.bk, ?_, h.L, fun q hq => ?_, h.apart⟩
  · obtain ⟨es, c, hb, r⟩ := h.map
    exact ⟨es, c, f.same b _ hb rfl, r⟩
  · have hs := h.segs q hq
    exact ⟨hs.gk, f.same _ _ hs.blk (by simp [Still]), R_fr hs.row f (by simp [Kd.int, Kd.scalar])⟩
theorem kSeg_E : ∀ q, q ∈ 81 :: kSeg.E → q ∉ [3, 9] := by
  intro q hq
  have he : kSeg.E = [5] ∨ kSeg.E = [5] := by
    first
      | exact .inl rfl
      | exact .inl (by simp [kSeg, kNat, Kd.pair, Kd.slice, Kd.int, Kd.scalar])
  rcases he with he | he <;>
  · rw [he] at hq
    simp at hq
    rcases hq with rfl | rfl <;> decide
theorem RAt.fr {ok : Nat → Prop} {w w1 : World} {p b0 : Nat} {R : RSt} {v : Value} (h : RAt ok w p R v) (f : Fr [3, 9] false b0 w w1) : RAt ok w1 p R v :=
  ⟨h.pk, f.same p _ h.blk (by simp [Still]), R_fr h.row f kSeg_E⟩
theorem Both.fr {base pd pr b0 : Nat} {w w1 : World} {S : DSt} {R : RSt} (h : Both base w pd pr S R) (f : Fr [3, 9] false b0 w w1) : Both base w1 pd pr S R := by
  obtain ⟨ok, ⟨M, b, h1⟩, v, h2⟩ := h
  exact ⟨ok, ⟨M, b, h1.fr f⟩, v, h2.fr f⟩
/-- Only blocks of rows of numbers and texts are named by ok. -/
def Typed39 (ok : Nat → Prop) (w : World) : Prop := ∀ k, ok k → ∃ cs t, (t = 3 ∨ t = 9) ∧ w.heap[k]? = some (.cells cs t (0, 0))
theorem fr_of_kp {ok : Nat → Prop} {w w1 : World} (h : Kp ok w w1) (ht : Typed39 ok w) : Fr [3, 9] false 0 w w1 :=
  ⟨h.below, fun i o ho hs => (h.same i (blk_lt ho) (fun hk => by
    obtain ⟨cs, t, ht, hc⟩ := ht i hk
    rw [hc] at ho
    cases ho
    rcases ht with rfl | rfl <;> simp [Still] at hs)).trans ho⟩
/-- A row whose blocks are not ok stays. -/
theorem Q_kp {α : Type} {d : Kd α} {e base : Nat} {ok okr : Nat → Prop} {w w1 : World} {v : Value} {xs : List α} (hE : d.E = []) (hQ : d.Q e w base okr v xs) (h : Kp ok w w1) (hn : ∀ k, v.ownBlock = some k → ¬ ok k) : d.Q e w1 base okr v xs := by
  have h1 := Kd.Q_tight hE hQ
  have h2 : d.Q e w1 base (fun k => some k = v.ownBlock) v xs := Kd.Q_step h1 (fun k hk hl => h.same k hl (hn k hk.symm))
  exact Kd.Q_mono h2 (fun k hk => hQ.1 k hk.symm)
theorem C_kp {v : Value} {e base : Nat} {ok okr : Nat → Prop} {w w1 : World} {k : IntKind} {xs : List Int} (hR : Kd.R (Kd.int k) e w base okr v xs) (h : Kp ok w w1) (hn : ∀ k, v.ownBlock = some k → ¬ ok k) : Kd.R (Kd.int k) e w1 base okr v xs := by
  have h1 := Kd.R_tight rfl hR
  have h2 := Kd.R_step h1 (w1 := w1) (fun k hk hl => h.same k hl (hn k hk.symm))
  exact Kd.R_mono h2 (fun k hk => hR.1 k hk.symm)
/-- The three rows that the law lays. -/
structure Rows3 (w : World) (N1 : Nat) (v8 v9 v10 : Value) (xs : List Int) (ss : List ByteArray) (ys : List Int) : Prop where
  r8 : Kd.Q (Kd.int .i64) 3 w 0 (fun k => N1 ≤ k) v8 xs
  r9 : Kd.Q Kd.string 9 w 0 (fun k => N1 ≤ k) v9 ss
  r10 : Kd.Q (Kd.int .i64) 3 w 0 (fun k => N1 ≤ k) v10 ys
  far : ∀ k, v8.ownBlock = some k → v10.ownBlock ≠ some k
theorem Rows3.nil (w : World) (N1 : Nat) : Rows3 w N1 (.slice none 0 0) (.slice none 0 0) (.slice none 0 0) [] [] [] := ⟨Kd.Q_nil _ _ _ _ _, Kd.Q_nil _ _ _ _ _, Kd.Q_nil _ _ _ _ _, fun k h => by cases h⟩
theorem Rows3.below {w w1 : World} {N1 : Nat} {v8 v9 v10 : Value} {xs : List Int} {ss : List ByteArray} {ys : List Int} (h : Rows3 w N1 v8 v9 v10 xs ss ys) (hb : Below w.heap.size w w1) : Rows3 w1 N1 v8 v9 v10 xs ss ys := ⟨Kd.Q_below h.r8 hb, Kd.Q_below h.r9 hb, Kd.Q_below h.r10 hb, h.far⟩
/-- The blocks of the three rows. -/
abbrev okr (v8 v9 v10 : Value) (k : Nat) : Prop := v8.ownBlock = some k ∨ v9.ownBlock = some k ∨ v10.ownBlock = some k
theorem Rows3.typed {w : World} {N1 : Nat} {v8 v9 v10 : Value} {xs : List Int} {ss : List ByteArray} {ys : List Int} (h : Rows3 w N1 v8 v9 v10 xs ss ys) : Typed39 (okr v8 v9 v10) w := fun k hk => by
  rcases hk with hk | hk | hk
  · obtain ⟨cs, hc⟩ := Kd.Q_typed h.r8 k hk
    exact ⟨cs, 3, .inl rfl, hc⟩
  · obtain ⟨cs, hc⟩ := Kd.Q_typed h.r9 k hk
    exact ⟨cs, 9, .inr rfl, hc⟩
  · obtain ⟨cs, hc⟩ := Kd.Q_typed h.r10 k hk
    exact ⟨cs, 3, .inl rfl, hc⟩
theorem Rows3.ne {w : World} {N1 : Nat} {v8 v9 v10 : Value} {xs : List Int} {ss : List ByteArray} {ys : List Int} (h : Rows3 w N1 v8 v9 v10 xs ss ys) {k : Nat} (hk : k < N1) : ¬ okr v8 v9 v10 k := fun e => by
  rcases e with e | e | e
  · have := h.r8.1 k e; omega
  · have := h.r9.1 k e; omega
  · have := h.r10.1 k e; omega
theorem Rows3.ne5 {w : World} {N1 : Nat} {v8 v9 v10 : Value} {xs : List Int} {ss : List ByteArray} {ys : List Int} (h : Rows3 w N1 v8 v9 v10 xs ss ys) {k t : Nat} {cs : Array Value} {z : Nat × Nat} (hc : w.heap[k]? = some (.cells cs t z)) (ht : t ≠ 3 ∧ t ≠ 9) : ¬ okr v8 v9 v10 k := fun e => by
  obtain ⟨cs', t', ht', hc'⟩ := h.typed k e
  rw [hc'] at hc
  injection hc with hc
  injection hc with h1 h2
  subst h2
  rcases ht' with e2 | e2
  · exact ht.1 e2
  · exact ht.2 e2
theorem infoI : (Try.prog.info? 3).map (fun i => (i.zero, i.size, i.bytes)) = some (some (.int .i64 0), 1, 8) := by kernel_rfl
theorem infoS : (Try.prog.info? 9).map (fun i => (i.zero, i.size, i.bytes)) = some (some (.string ByteArray.empty), 1, 16) := by kernel_rfl
theorem lit_at {w : World} {L : Nat} {u : Value} {t : Nat} (h : w.heap[L]? = some (.cells #[u] t (0, 0))) : ∀ j x, [u][j]? = some x → w.cell? ((⟨L, 0, none⟩ : Addr).add j) = some x := fun j x hj => by
  cases j with
  | zero =>
    simp at hj
    subst hj
    exact (blk_cell h 0).trans rfl
  | succ j => simp at hj
theorem own_ne {α β : Type} {d : Kd α} {d' : Kd β} {e e' base base' : Nat} {ok ok' : Nat → Prop} {w : World} {v u : Value} {xs : List α} {ys : List β} (h : d.Q e w base ok v xs) (k : d'.Q e' w base' ok' u ys) (hne : e ≠ e') : ∀ b, v.ownBlock = some b → u.ownBlock ≠ some b := fun b hb hu => by
  obtain ⟨c1, h1⟩ := Kd.Q_typed h b hb
  obtain ⟨c2, h2⟩ := Kd.Q_typed k b hu
  rw [h1] at h2
  injection h2 with h2
  injection h2 with h3 h4
  exact hne h4
theorem Q_fr {α : Type} {d : Kd α} {e : Nat} {w w1 : World} {base base' : Nat} {ok : Nat → Prop} {v : Value} {xs : List α} {T : List Nat} {mp : Bool} (h : d.Q e w base ok v xs) (f : Fr T mp base' w w1) (ht : ∀ q, q ∈ e :: d.E → q ∉ T) : d.Q e w1 base ok v xs :=
  Kd.Q_mono (Kd.Q_move (Kd.Q_bound h) (fun k hk => by
    obtain ⟨_, _, _, q, hq, cells, hc⟩ := hk
    rw [hc]
    exact f.same k _ hc (ht q hq))) (fun _ hk => hk.1)
theorem Rows3.nx {base : Nat} {w w1 : World} {N1 : Nat} {v8 v9 v10 : Value} {xs : List Int} {ss : List ByteArray} {ys : List Int} (h : Rows3 w N1 v8 v9 v10 xs ss ys) (n : Nx base w w1) : Rows3 w1 N1 v8 v9 v10 xs ss ys :=
  ⟨Q_fr h.r8 n.fr (by simp [Kd.int, Kd.scalar]), Q_fr h.r9 n.fr (by simp [Kd.string, Kd.scalar]), Q_fr h.r10 n.fr (by simp [Kd.int, Kd.scalar]), h.far⟩
theorem Kp.mono_ {ok ok' : Nat → Prop} {w w1 : World} (h : Kp ok w w1) (hk : ∀ k, ok k → ok' k) : Kp ok' w w1 := ⟨h.below, fun i hi hn => h.same i hi (fun e => hn (hk i e))⟩
theorem Q_at_int {k : IntKind} {e base : Nat} {ok : Nat → Prop} {w : World} {A : Option Addr} {n c : Nat} {xs : List Int} (h : (Kd.int k).Q e w base ok (.slice A n c) xs) {i : Nat} (hi : i < n) : ∃ ad, A = some ad ∧ w.cell? (ad.add i) = some (.int k (rd xs (i : Int))) := by
  obtain ⟨hn, _, hC⟩ := Kd.Q_reads' h
  rw [← hn] at hC
  obtain ⟨ad, ha, hc⟩ := Kd.at_int hC (i : Int) (by omega) (by omega)
  rw [Int.toNat_natCast] at hc
  exact ⟨ad, ha, hc⟩
theorem Q_at_str {e base : Nat} {ok : Nat → Prop} {w : World} {A : Option Addr} {n c : Nat} {xs : List ByteArray} (h : Kd.string.Q e w base ok (.slice A n c) xs) {i : Nat} (hi : i < n) : ∃ ad, A = some ad ∧ w.cell? (ad.add i) = some (.string (rdOf ByteArray.empty xs (i : Int))) := by
  obtain ⟨hn, _, hC⟩ := Kd.Q_reads' h
  rw [← hn] at hC
  obtain ⟨ad, ha, hc⟩ := Kd.at_string hC (i : Int) (by omega) (by omega)
  rw [Int.toNat_natCast] at hc
  exact ⟨ad, ha, hc⟩
section
variable {base pd pr : Nat} {w : World} {S : DSt} {R : RSt}
theorem bDown' (h : Both base w pd pr S R) (hbase : base ≤ w.heap.size) : Calls Try.prog 20 #[.pointer (some ⟨pd, 0, none⟩)] w fun e w' => e = .returned (.bool S.down) ∧ w = w' := by
  obtain ⟨ok, hok, ⟨M, b, hL⟩, hnx, hnext⟩ := h.disk hbase
  exact Down_calls S M b ok pd w hL
theorem bSegs' (h : Both base w pd pr S R) (hbase : base ≤ w.heap.size) (hl : S.L.length ≤ 100000) (n : Nat) (hn : (nums S.L).length = n) : Calls Try.prog 16 #[.pointer (some ⟨pd, 0, none⟩)] w fun e w' => ∃ A c, e = .returned (.slice A n c) ∧ Below w.heap.size w w' := by
  subst hn
  obtain ⟨ok, hok, ⟨M, b, hL⟩, hnx, hnext⟩ := h.disk hbase
  refine (Segs_calls S M b ok pd w hL hl).mono ?_
  rintro e w' ⟨A, c, rfl, _, _, hb⟩
  exact ⟨A, c, rfl, hb⟩
end
end Go.Proofs.Ytnplnelhodnonaa.Dsk
namespace Go.Proofs.Ytnplnelhodnonaa.Dsk
open Go.RowKit Go.Proofs.YtnplnelhodnonaaW.PrintWords Go.Proofs.YtnplnelhodnonaaW.PrintLast Go.Proofs.YtnplnelhodnonaaW.PrintMore Go.Proofs.Ytnplnelhodnonaa.PDiskNil
open Amap Frm
set_option linter.unusedVariables false
set_option linter.unusedSimpArgs false
theorem take_next {α : Type} {L : List α} {i : Nat} {x : α} (h : L[i]? = some x) : L.take (i + 1) = L.take i ++ [x] := by
  obtain ⟨hl, e⟩ := List.getElem?_eq_some_iff.1 h
  rw [List.take_succ_eq_append_getElem hl, e]
theorem add_block (ad : Addr) (i : Nat) : (ad.add i).block = ad.block := by
  unfold Addr.add
  split <;> rfl
theorem cell_same {w w' : World} {a : Addr} (h : w'.heap[a.block]? = w.heap[a.block]?) : w'.cell? a = w.cell? a := by
  unfold World.cell?
  rw [h]
set_option maxHeartbeats 16000000 in
set_option maxRecDepth 100000 in
theorem keeps_calls (A : Option Addr) (cp : Nat) (l : List S33) (A5 : Option Addr) (cp5 : Nat) (keep : List Int) (w : World) (hl : l.length ≤ 140737488351232) (hlen : ∀ x ∈ l, x.f4.length ≤ 140737488351232) (hwf : ∀ x ∈ l, domI x.f1) (hC : Kd.C k33 w A l.length l) (hc : l.length ≤ cp) (hCk : Kd.C (Kd.int .i64) w A5 keep.length keep) (hck : keep.length ≤ cp5) (hkl : keep.length ≤ 140737488351232) :
    Calls Try.prog 4 #[.slice A l.length cp, .slice A5 keep.length cp5] w fun e w' => e = .returned (.bool true) ∧ Below w.heap.size w w' := by
  obtain ⟨b, hb150, hfew⟩ := few_calls l (by omega) hlen
  have hfew' := Aside0.mk hfew
  have hC' := Aside0.mk hC
  have hCk' := Aside0.mk hCk
  have hc' := Aside0.mk hc
  have hck' := Aside0.mk hck
  have hwf' := Aside0.mk hwf
  clear hfew hC hc hwf hlen hCk hck
  cases b with
  | false =>
    go_enter Try.func4, Try.ntmps4
    go_wp2_with fail
    refine (awake_calls _).mono ?_
    rintro e w1 ⟨rfl, hb1⟩
    go_wp2_with fail
    refine (hfew'.out A cp _ (Kd.C_below hC'.out hb1) hc'.out).mono ?_
    rintro e w2 ⟨rfl, ⟨m, rfl⟩⟩
    go_wp2_with fail
    refine (awake_calls _).mono ?_
    rintro e w3 ⟨rfl, hb3⟩
    go_wp2
    go_ret
    exact ⟨rfl, below_step (pw_below_drewN hb1 m) hb3⟩
  | true =>
    obtain ⟨h150, hsmall⟩ := hb150 rfl
    have hsmall' := Aside0.mk hsmall
    clear hb150 hsmall
    by_cases hk100 : (keep.length : Int) > 100
    · go_enter Try.func4, Try.ntmps4
      go_wp2_with fail
      refine (awake_calls _).mono ?_
      rintro e w1 ⟨rfl, hb1⟩
      go_wp2_with fail
      refine (hfew'.out A cp _ (Kd.C_below hC'.out hb1) hc'.out).mono ?_
      rintro e w2 ⟨rfl, ⟨m, rfl⟩⟩
      go_wp2_with fail
      refine (awake_calls _).mono ?_
      rintro e w3 ⟨rfl, hb3⟩
      go_wp2
      go_ret
      exact ⟨rfl, below_step (pw_below_drewN hb1 m) hb3⟩
    · have hk100' := Aside0.mk hk100
      go_enter Try.func4, Try.ntmps4
      go_wp2_with fail
      refine (awake_calls _).mono ?_
      rintro e w1 ⟨rfl, hb1⟩
      go_wp2_with fail
      refine (hfew'.out A cp _ (Kd.C_below hC'.out hb1) hc'.out).mono ?_
      rintro e w2 ⟨rfl, ⟨m, hm2⟩⟩
      have hb2 : Below w.heap.size w w2 := by rw [hm2]; exact pw_below_drewN hb1 m
      clear hm2 hb1
      have hs2 : w.heap.size ≤ w2.heap.size := hb2.size
      have hb2' := Aside0.mk hb2
      go_wp2_with fail
      refine (New_calls' 100000 w2 (fun k => w2.heap.size ≤ k) (fun k hk => hk)).mono ?_
      rintro e w3 ⟨rfl, hL3, hb3⟩
      have hs3 : w2.heap.size ≤ w3.heap.size := hb3.size
      have hL3' := Aside0.mk hL3
      have hb3' := Aside0.mk hb3
      clear hL3 hb3 hb2 hk100
      go_wp2_with fail
      refine (RNew_calls 100000 w3 (fun k => w3.heap.size ≤ k) (fun k hk => hk)).mono ?_
      rintro e w4 ⟨rfl, hR4, hb4⟩
      obtain ⟨pd, hpd⟩ : ∃ pd, w2.heap.size + 1 = pd := ⟨_, rfl⟩
      obtain ⟨pr, hpr⟩ : ∃ pr, w3.heap.size = pr := ⟨_, rfl⟩
      have hL3 := hL3'.out
      have hB0 : Aside0 (Both w.heap.size w4 (w2.heap.size + 1) w3.heap.size ⟨[], max 100000 0, 0, false, false⟩ ⟨[], max 100000 0, -1, false⟩) := ⟨both_new hs2 hL3 hR4 hb4 hs3⟩
      have hX0 : Aside0 (Below w.heap.size w w4) := ⟨(hb2'.out.trans (hb3'.out.mono hs2)).trans (hb4.mono (by omega))⟩
      have hI0 := Aside0.mk (Inv.new (max 100000 0) (by omega) (by omega))
      rw [hpd, hpr] at hB0
      rw [hpd, hpr]
      clear hL3 hL3' hb3' hR4 hb4 hpd hpr hs3 hs2 hb2'
      go_upto_block 0 with fail
      go_cut [35] (fun v35 wx => v35 = v35 ∧ ∃ (S : DSt) (R : RSt), Aside0 (Inv l.length S R) ∧ Aside0 (Calm R) ∧ Aside0 (Both w.heap.size wx pd pr S R) ∧ Aside0 (Below w.heap.size w wx))
      case first =>
        go_wp2_with fail
        go_loopg [35] (l.length + 1) (fun kq v35 w' => ∃ (i : Nat) (S : DSt) (R : RSt), v35 = .int .i64 (i : Int) ∧ Aside0 (kq + i = l.length + 1) ∧ Aside0 (i ≤ l.length) ∧ Aside0 (Inv i S R) ∧ Aside0 (Calm R) ∧ Aside0 (Both w.heap.size w' pd pr S R) ∧ Aside0 (Below w.heap.size w w'))
        case atStart => exact ⟨0, _, _, rfl, ⟨by omega⟩, ⟨by omega⟩, hI0, ⟨by decide, rfl⟩, hB0, hX0⟩
        case round =>
          obtain ⟨i, S, R, rfl, hk, hi, hI, hCa, hBo, hB⟩ := hrel
          by_cases hlt : i < l.length
          · have hd : decide ((i : Int) < (l.length : Int)) = true := decide_eq_true (by omega)
            have hd' : decide (i < l.length) = true := decide_eq_true hlt
            cases gk with
            | zero => exact absurd hk.out (by omega)
            | succ k1 =>
              have hi150 : i < 150 := by omega
              have hlt' := Aside0.mk hlt
              have p1 : 0 ≤ (i : Int) := by omega
              have q1 : (i : Int) < (l.length : Int) := by omega
              have hmem : rd_T33 l (i : Int) ∈ l := by simp [rd_T33, List.getD_eq_getElem?_getD, List.getElem?_eq_getElem hlt]
              have hxl := hsmall'.out _ hmem
              have hdom := hwf'.out _ hmem
              obtain ⟨ad, A4, c4, A6, c6, e1, y0, y1, y2, y3, y4, y5, hc4, hC4, hc5, hC5⟩ := at_T33 hC'.out (i : Int) p1 q1
              cases e1
              rw [show ((i : Int)).toNat = i from by simp] at y0 y1 y2 y3 y4 y5
              obtain ⟨x, hxx⟩ : ∃ x, rd_T33 l (i : Int) = x := ⟨_, rfl⟩
              rw [hxx] at y0 y1 y2 y3 y4 y5 hc4 hC4 hc5 hC5 hxl hdom
              obtain ⟨kd, xa, xb, xy, x, ks⟩ := x
              simp only [] at y0 y1 y2 y3 y4 y5 hc4 hC4 hc5 hC5 hxl hdom
              have z0 := keepx y0 hB.out
              have z1 := keepx y1 hB.out
              have z2 := keepx y2 hB.out
              have z3 := keepx y3 hB.out
              have z4 := keepx y4 hB.out
              have z5 := keepx y5 hB.out
              have hszr : w.heap.size ≤ wr.heap.size := hB.out.size
              have hC4' := Aside0.mk hC4
              have hC5' := Aside0.mk hC5
              by_cases h4 : kd < 4
              · have hdo := Aside0.mk (Do_calls hBo.out hszr hI.out (by omega) kd xa xb xy hdom A4 c4 x (fun w1 h1 => Kd.C_below hC4'.out (hB.out.trans h1.below)) hxl.1 A6 c6 ks (fun w1 h1 => Kd.C_below hC5'.out (hB.out.trans h1.below)) hxl.2 hc5)
                have hI2 := Aside0.mk (hI.out.op ⟨kd, xa, xb, xy, x, ks⟩ hdom hxl.1)
                have hCa2 := Aside0.mk (hCa.out.op ⟨kd, xa, xb, xy, x, ks⟩ h4)
                obtain ⟨S1, hS1⟩ : ∃ S1, doD S ⟨kd, xa, xb, xy, x, ks⟩ = S1 := ⟨_, rfl⟩
                obtain ⟨R1, hR1⟩ : ∃ R1, doR R ⟨kd, xa, xb, xy, x, ks⟩ = R1 := ⟨_, rfl⟩
                rw [hS1, hR1] at hdo hI2
                rw [hR1] at hCa2
                have h4' : decide (kd < 4) = true := decide_eq_true h4
                clear hmem hxx y0 y1 y2 y3 y4 y5 hC4 hC5 hS1 hR1 hdom hxl hlt
                go_wp2_with fail
                refine hdo.out.mono ?_
                rintro e w5 ⟨rfl, hB5, hn5⟩
                have hB5' := Aside0.mk hB5
                have hX5 := Aside0.mk (hB.out.trans hn5.below)
                clear hB5 hn5 z0 z1 z2 z3 z4 z5
                go_wp2_with fail
                go_roundg k1
                case measure => have := hk.out; omega
                case rel => exact ⟨i + 1, S1, R1, by go_num, ⟨by have := hk.out; omega⟩, ⟨by have := hlt'.out; omega⟩, hI2, hCa2, hB5', hX5⟩
              · have h4' : decide (kd < 4) = false := decide_eq_false h4
                clear hmem hxx y0 y1 y2 y3 y4 y5 hC4 hC5 hdom hxl hlt
                go_wp2_with fail
                go_roundg k1
                case measure => have := hk.out; omega
                case rel => exact ⟨i + 1, S, R, by go_num, ⟨by have := hk.out; omega⟩, ⟨by have := hlt'.out; omega⟩, ⟨hI.out.le (Nat.le_succ _)⟩, hCa, hBo, hB⟩
          · have hd : decide ((i : Int) < (l.length : Int)) = false := decide_eq_false (by omega)
            have hd' : decide (i < l.length) = false := decide_eq_false hlt
            go_wp2_with fail
            go_meet
            exact ⟨trivial, S, R, ⟨hI.out.le hi.out⟩, hCa, hBo, hB⟩
      case rest =>
        obtain ⟨_, S, R, hI, hCa, hBo, hB⟩ := hcut
        clear hB0 hX0 hI0
        have hn400 : l.length ≤ 400 := by omega
        obtain ⟨ns, hns⟩ : ∃ ns, R.L.map (·.1) = ns := ⟨_, rfl⟩
        obtain ⟨ss, hss⟩ : ∃ ss, R.L.map (fun p => strOfNums p.2.1) = ss := ⟨_, rfl⟩
        obtain ⟨ys, hys⟩ : ∃ ys, R.L.map (fun p => ((p.2.2 : Nat) : Int)) = ys := ⟨_, rfl⟩
        have hszc : w.heap.size ≤ wc.heap.size := hB.out.size
        have hsg := bSegs hBo.out hszc hI.out hn400 ns hns
        have hlenn : ns.length = R.L.length := by rw [← hns, List.length_map]
        obtain ⟨N, hN⟩ : ∃ N, R.L.length = N := ⟨_, rfl⟩
        rw [hlenn, hN] at hsg
        have hNl : N ≤ l.length := by rw [← hN]; exact hI.out.len
        have hel : Aside0 (∀ i, i < N → ∃ k q sy, R.L[i]? = some (k, (q, sy)) ∧ ns[i]? = some k ∧ ss[i]? = some (strOfNums q) ∧ ys[i]? = some (sy : Int) ∧ sg S.L k = (q, sy) ∧ domI k ∧ dread S k = q ∧ sy ≤ q.length ∧ q.length ≤ 50000000) := ⟨fun i hi => by
          obtain ⟨⟨k, q, sy⟩, hq⟩ : ∃ q, R.L[i]? = some q := ⟨_, List.getElem?_eq_getElem (by omega)⟩
          have hlk := at_look hI.out.up.nd hq
          have hmem := List.mem_of_getElem? hq
          have hnum := hI.out.num _ hmem
          have hsgk : sg S.L k = (q, sy) := by rw [hI.out.sg, sg_some hlk]
          have hf : dfind S k = 0 := by rw [← hI.out.find, rfind_some hCa.out.2 hlk]
          refine ⟨k, q, sy, hq, by rw [← hns, List.getElem?_map, hq]; rfl, by rw [← hss, List.getElem?_map, hq]; rfl, by rw [← hys, List.getElem?_map, hq]; rfl, hsgk, ?_, ?_, hnum.2.2, ?_⟩
          · unfold domI
            have h1 : IntKind.i64.min = -9223372036854775808 := by decide
            have h2 : IntKind.i64.max = 9223372036854775807 := by decide
            simp only [Lit.wf, h1, h2, Bool.and_eq_true, decide_eq_true_eq]
            simp only [] at hnum
            omega
          · unfold dread
            rw [if_pos hf, hsgk]
          · have h1 := used_mem hmem
            have h2 := (hI.out.u hn400).2.1
            simp only [] at h1
            omega⟩
        have hll : Aside0 (ns.length = N ∧ ss.length = N ∧ ys.length = N) := ⟨by rw [← hns, ← hss, ← hys]; simp [hN]⟩
        have hsg' := Aside0.mk hsg
        have hN' := Aside0.mk hN
        clear hsg hns hss hys hlenn hN
        go_upto_block 2 with (first | (go_at_call 16; (with_reducible refine hsg'.out.mono ?_); rintro e w4 ⟨Al, cl, rfl, hcl, hR4, hb4⟩; have hR4' := Aside0.mk hR4; have hb4' := Aside0.mk hb4; clear hR4 hb4) | fail)
        have hs4 : w.heap.size ≤ w4.heap.size := Nat.le_trans hszc hb4'.out.size
        have hB4 := Aside0.mk (hBo.out.below hb4'.out)
        have hX4 := Aside0.mk (hB.out.trans (hb4'.out.mono hszc))
        have hns4 : Aside0 (Kd.R (Kd.int .i64) 3 w4 0 (fun k => k < w4.heap.size) (.slice Al N cl) ns) := ⟨Kd.R_lower (Kd.R_mono (Kd.R_bound hR4'.out) (fun k hk => hk.2.2.1)) (Nat.zero_le _)⟩
        obtain ⟨N1, hN1⟩ : ∃ N1, w4.heap.size = N1 := ⟨_, rfl⟩
        rw [hN1] at hns4
        have hN1' := Aside0.mk hN1
        clear hBo hB hszc hb4' hR4' hN1
        go_cut [8, 9, 10] (fun v8 v9 v10 wx => ∃ A8 c8 A9 c9 A10 c10, v8 = .slice A8 N c8 ∧ v9 = .slice A9 N c9 ∧ v10 = .slice A10 N c10 ∧ Aside0 (Rows3 wx N1 (.slice A8 N c8) (.slice A9 N c9) (.slice A10 N c10) ns ss ys) ∧ Aside0 (Both w.heap.size wx pd pr S R) ∧ Aside0 (Below w.heap.size w wx))
        case first =>
          go_wp2_with fail
          go_loopg [56, 8, 9, 10] (N + 1) (fun kq v56 v8 v9 v10 w' => ∃ (i : Nat) (A8 : Option Addr) (c8 : Nat) (A9 : Option Addr) (c9 : Nat) (A10 : Option Addr) (c10 : Nat), v56 = .int .i64 (i : Int) ∧ v8 = .slice A8 i c8 ∧ v9 = .slice A9 i c9 ∧ v10 = .slice A10 i c10 ∧ Aside0 (kq + i = N + 1) ∧ Aside0 (i ≤ N) ∧ Aside0 (Rows3 w' N1 (.slice A8 i c8) (.slice A9 i c9) (.slice A10 i c10) (ns.take i) (ss.take i) (ys.take i)) ∧ Aside0 (Both w.heap.size w' pd pr S R) ∧ Aside0 (Below w.heap.size w w') ∧ Aside0 (Kd.R (Kd.int .i64) 3 w' 0 (fun k => k < N1) (.slice Al N cl) ns) ∧ Aside0 (N1 ≤ w'.heap.size))
          case atStart => exact ⟨0, none, 0, none, 0, none, 0, rfl, rfl, rfl, rfl, ⟨by omega⟩, ⟨by omega⟩, ⟨Rows3.nil _ _⟩, hB4, hX4, hns4, ⟨by rw [← hN1'.out]; exact Nat.le_refl _⟩⟩
          case round =>
            obtain ⟨i, A8, c8, A9, c9, A10, c10, rfl, rfl, rfl, rfl, hk, hi, hR3, hBo, hB, hnr, hN1r⟩ := hrel
            by_cases hlt : i < N
            · have hd : decide ((i : Int) < (N : Int)) = true := decide_eq_true (by omega)
              have hd' : decide (i < N) = true := decide_eq_true hlt
              cases gk with
              | zero => exact absurd hk.out (by omega)
              | succ k1 =>
                obtain ⟨k, q, sy, hq, hn1, hs1, hy1, hsk, hdk, hrk, hsyq, hql⟩ := hel.out i hlt
                have hlt' := Aside0.mk hlt
                have p1 : 0 ≤ (i : Int) := by omega
                have q1 : (i : Int) < (N : Int) := by omega
                have hszr : w.heap.size ≤ wr.heap.size := hB.out.size
                have hnlen := hll.out.1
                obtain ⟨ad, hAl, hc0⟩ := Kd.at_int (Kd.R_reads' hnr.out).2.2 (i : Int) p1 (by rw [hnlen]; exact q1)
                subst hAl
                have hrd : rd ns (i : Int) = k := by unfold rd; rw [Int.toNat_natCast, List.getD_eq_getElem?_getD, hn1]; rfl
                rw [hrd, show ((i : Int)).toNat = i from by simp] at hc0
                have htk8 := Aside0.mk (take_next hn1)
                have htk9 := Aside0.mk (take_next hs1)
                have htk10 := Aside0.mk (take_next hy1)
                obtain ⟨E, hE⟩ : ∃ E, dfind S k = E := ⟨_, rfl⟩
                have hrdc := Aside0.mk (bRead hBo.out hszr hI.out hn400 k hdk q E hrk hE)
                have hsyk : (sg S.L k).2 = sy := by rw [hsk]
                have hsyk' := Aside0.mk hsyk
                have hdk' := Aside0.mk hdk
                have hql' := Aside0.mk hql
                clear hq hn1 hs1 hy1 hsk hdk hrk hsyq hql hrd hE hlt hnlen hsyk
                go_upto_region 19 with (first | (go_at_call 17; (with_reducible refine hrdc.out.mono ?_); rintro e W ⟨A3, c3, rfl, hRr, hbW⟩; have hRr' := Aside0.mk hRr; have hbW' := Aside0.mk hbW; clear hRr hbW) | fail)
                have hR3W := Aside0.mk (hR3.out.below hbW'.out)
                have hBoW := Aside0.mk (hBo.out.below hbW'.out)
                have hXW := Aside0.mk (hB.out.trans (hbW'.out.mono hszr))
                have hnW := Aside0.mk (Kd.R_below hnr.out hbW'.out)
                have hcW := keepx hc0 hbW'.out
                have hN1W : N1 ≤ W.heap.size := Nat.le_trans hN1r.out hbW'.out.size
                have hsW : w.heap.size ≤ W.heap.size := Nat.le_trans hszr hbW'.out.size
                have hadl : Aside0 (ad.block < N1) := ⟨hnW.out.1 ad.block rfl⟩
                obtain ⟨str, hstr⟩ : ∃ str, strOfNums q = str := ⟨_, rfl⟩
                have hstr' := Aside0.mk hstr
                have hrow5 : ∀ b, (Value.slice A3 q.length c3).ownBlock = some b → ¬ okr (.slice A8 i c8) (.slice A9 i c9) (.slice A10 i c10) b := fun b hb => by
                  obtain ⟨cs, hcs⟩ := Kd.R_typed hRr'.out b hb
                  exact hR3W.out.ne5 hcs (by decide)
                have hS' : Aside0 (∀ w', Kp (okr (.slice A8 i c8) (.slice A9 i c9) (.slice A10 i c10)) W w' → w'.cell? (ad.add i) = some (.int .i64 k) ∧ (convert 30 9 (.slice A3 q.length c3)).run Try.prog w' = .ok (.string str) w') := ⟨fun w' hw => by
                  have h1 := C_kp hRr'.out hw hrow5
                  have h2 := Kd.C_string (P := Try.prog) (c := c3) Try.underlying30 Try.underlying5 Try.underlying9 (Kd.R_reads' h1).2.2
                  rw [hstr'.out] at h2
                  refine ⟨?_, h2⟩
                  have h3 : w'.heap[ad.block]? = W.heap[ad.block]? := hw.same ad.block (by have := hadl.out; omega) (hR3W.out.ne hadl.out)
                  exact (cell_same (a := ad.add i) (by rw [add_block]; exact h3)).trans hcW⟩
                have hs0 := hS'.out W (Kp.refl _ _)
                have hcS : Aside0 (∀ w', Kp (okr (.slice A8 i c8) (.slice A9 i c9) (.slice A10 i c10)) W w' → Both w.heap.size w' pd pr S R) := ⟨fun w' hw => hBoW.out.fr (fr_of_kp hw hR3W.out.typed)⟩
                have hlt8 := Aside0.mk (Kd.Q_lt hR3W.out.r8)
                have hlt10 := Aside0.mk (Kd.Q_lt hR3W.out.r10)
                clear hR3 hBo hB hnr hN1r hrdc hc0 hcW hbW' hstr hrow5 hszr
                refine start_ (n := 24) (S := fun w' => w'.cell? (ad.add i) = some (.int .i64 k) ∧ (convert 30 9 (.slice A3 q.length c3)).run Try.prog w' = .ok (.string str) w') (ds := []) #[false, false, false, false, false, false, false, false, false, false, false, false, false, false, false, false, false, false, false, false, false, false, false, false] (by kernel_rfl) rfl rfl (hS'.out _ (Kp.drew (Kp.refl _ _))) (fun hHeld => ?_)
                refine pure_ (i := 0) (N := (some 68)) (v := ?_) (a' := ?_) #[true, false, false, false, false, false, false, false, false, false, false, false, false, false, false, false, false, false, false, false, false, false, false, false] rfl rfl (by kernel_rfl) (fun _ _ _ h => h) (Or.inl ⟨by rfl, ?_⟩) ?_ ?_
                rotate_left
                · intro w'
                  go_simp
                  with_reducible rfl
                rotate_left
                · simp only [Act.put, List.setIfInBounds_toArray, List.set_cons_zero, List.set_cons_succ, i64_w, i32_w]
                  rfl
                refine pure_ (i := 1) (N := (some 69)) (v := ?_) (a' := ?_) #[true, true, false, false, false, false, false, false, false, false, false, false, false, false, false, false, false, false, false, false, false, false, false, false] rfl rfl (by kernel_rfl) (fun _ _ _ h => h) (Or.inl ⟨by rfl, ?_⟩) ?_ ?_
                rotate_left
                · intro w'
                  go_simp
                  with_reducible rfl
                rotate_left
                · simp only [Act.put, List.setIfInBounds_toArray, List.set_cons_zero, List.set_cons_succ, i64_w, i32_w]
                  rfl
                refine pure_ (i := 2) (N := (some 70)) (v := ?_) (a' := ?_) #[true, true, true, false, false, false, false, false, false, false, false, false, false, false, false, false, false, false, false, false, false, false, false, false] rfl rfl (by kernel_rfl) (fun _ _ _ h => h) (Or.inl ⟨by rfl, ?_⟩) ?_ ?_
                rotate_left
                · intro w'
                  go_simp
                  with_reducible rfl
                rotate_left
                · simp only [Act.put, List.setIfInBounds_toArray, List.set_cons_zero, List.set_cons_succ, i64_w, i32_w]
                  rfl
                refine pure_ (i := 3) (N := (some 71)) (v := ?_) (a' := ?_) #[true, true, true, true, false, false, false, false, false, false, false, false, false, false, false, false, false, false, false, false, false, false, false, false] rfl rfl (by kernel_rfl) (fun _ _ _ h => h) (Or.inl ⟨by rfl, ?_⟩) ?_ ?_
                rotate_left
                · intro w'
                  go_simp
                  with_reducible rfl
                rotate_left
                · simp only [Act.put, List.setIfInBounds_toArray, List.set_cons_zero, List.set_cons_succ, i64_w, i32_w]
                  rfl
                refine take_ (i := 4) (N := (some 72)) (v := ?_) (a' := ?_) #[true, true, true, true, true, false, false, false, false, false, false, false, false, false, false, false, false, false, false, false, false, false, false, false] rfl rfl (by kernel_rfl) (fun _ _ _ h => h) (Or.inl ⟨by rfl, ?_⟩) hHeld ?_ ?_
                rotate_left
                · rintro w' ⟨s0, s1⟩
                  go_simp
                  with_reducible rfl
                rotate_left
                · simp only [Act.put, List.setIfInBounds_toArray, List.set_cons_zero, List.set_cons_succ, i64_w, i32_w]
                  rfl
                refine pure_ (i := 7) (N := (some 75)) (v := ?_) (a' := ?_) #[true, true, true, true, true, false, false, true, false, false, false, false, false, false, false, false, false, false, false, false, false, false, false, false] rfl rfl (by kernel_rfl) (fun _ _ _ h => h) (Or.inl ⟨by rfl, ?_⟩) ?_ ?_
                rotate_left
                · intro w'
                  go_simp
                  with_reducible rfl
                rotate_left
                · simp only [Act.put, List.setIfInBounds_toArray, List.set_cons_zero, List.set_cons_succ, i64_w, i32_w]
                  rfl
                refine pure_ (i := 8) (N := (some 76)) (v := ?_) (a' := ?_) #[true, true, true, true, true, false, false, true, true, false, false, false, false, false, false, false, false, false, false, false, false, false, false, false] rfl rfl (by kernel_rfl) (fun _ _ _ h => h) (Or.inl ⟨by rfl, ?_⟩) ?_ ?_
                rotate_left
                · intro w'
                  go_simp
                  with_reducible rfl
                rotate_left
                · simp only [Act.put, List.setIfInBounds_toArray, List.set_cons_zero, List.set_cons_succ, i64_w, i32_w]
                  rfl
                refine take_ (i := 9) (N := (some 77)) (v := ?_) (a' := ?_) #[true, true, true, true, true, false, false, true, true, true, false, false, false, false, false, false, false, false, false, false, false, false, false, false] rfl rfl (by kernel_rfl) (fun _ _ _ h => h) (Or.inl ⟨by rfl, ?_⟩) hHeld ?_ ?_
                rotate_left
                · rintro w' ⟨s0, s1⟩
                  go_simp
                  with_reducible rfl
                rotate_left
                · simp only [Act.put, List.setIfInBounds_toArray, List.set_cons_zero, List.set_cons_succ, i64_w, i32_w]
                  rfl
                refine pure_ (i := 12) (N := (some 80)) (v := ?_) (a' := ?_) #[true, true, true, true, true, false, false, true, true, true, false, false, true, false, false, false, false, false, false, false, false, false, false, false] rfl rfl (by kernel_rfl) (fun _ _ _ h => h) (Or.inl ⟨by rfl, ?_⟩) ?_ ?_
                rotate_left
                · intro w'
                  go_simp
                  with_reducible rfl
                rotate_left
                · simp only [Act.put, List.setIfInBounds_toArray, List.set_cons_zero, List.set_cons_succ, i64_w, i32_w]
                  rfl
                refine pure_ (i := 13) (N := (some 81)) (v := ?_) (a' := ?_) #[true, true, true, true, true, false, false, true, true, true, false, false, true, true, false, false, false, false, false, false, false, false, false, false] rfl rfl (by kernel_rfl) (fun _ _ _ h => h) (Or.inl ⟨by rfl, ?_⟩) ?_ ?_
                rotate_left
                · intro w'
                  go_simp
                  with_reducible rfl
                rotate_left
                · simp only [Act.put, List.setIfInBounds_toArray, List.set_cons_zero, List.set_cons_succ, i64_w, i32_w]
                  rfl
                refine pure_ (i := 14) (N := (some 82)) (v := ?_) (a' := ?_) #[true, true, true, true, true, false, false, true, true, true, false, false, true, true, true, false, false, false, false, false, false, false, false, false] rfl rfl (by kernel_rfl) (fun _ _ _ h => h) (Or.inl ⟨by rfl, ?_⟩) ?_ ?_
                rotate_left
                · intro w'
                  go_simp
                  with_reducible rfl
                rotate_left
                · simp only [Act.put, List.setIfInBounds_toArray, List.set_cons_zero, List.set_cons_succ, i64_w, i32_w]
                  rfl
                refine pure_ (i := 15) (N := (some 83)) (v := ?_) (a' := ?_) #[true, true, true, true, true, false, false, true, true, true, false, false, true, true, true, true, false, false, false, false, false, false, false, false] rfl rfl (by kernel_rfl) (fun _ _ _ h => h) (Or.inl ⟨by rfl, ?_⟩) ?_ ?_
                rotate_left
                · intro w'
                  go_simp
                  with_reducible rfl
                rotate_left
                · simp only [Act.put, List.setIfInBounds_toArray, List.set_cons_zero, List.set_cons_succ, i64_w, i32_w]
                  rfl
                refine pure_ (i := 16) (N := (some 84)) (v := ?_) (a' := ?_) #[true, true, true, true, true, false, false, true, true, true, false, false, true, true, true, true, true, false, false, false, false, false, false, false] rfl rfl (by kernel_rfl) (fun _ _ _ h => h) (Or.inl ⟨by rfl, ?_⟩) ?_ ?_
                rotate_left
                · intro w'
                  go_simp
                  with_reducible rfl
                rotate_left
                · simp only [Act.put, List.setIfInBounds_toArray, List.set_cons_zero, List.set_cons_succ, i64_w, i32_w]
                  rfl
                refine take_ (i := 17) (N := (some 85)) (v := ?_) (a' := ?_) #[true, true, true, true, true, false, false, true, true, true, false, false, true, true, true, true, true, true, false, false, false, false, false, false] rfl rfl (by kernel_rfl) (fun _ _ _ h => h) (Or.inl ⟨by rfl, ?_⟩) hHeld ?_ ?_
                rotate_left
                · rintro w' ⟨s0, s1⟩
                  go_simp
                  with_reducible rfl
                rotate_left
                · simp only [Act.put, List.setIfInBounds_toArray, List.set_cons_zero, List.set_cons_succ, i64_w, i32_w]
                  rfl
                refine join_ (σ := Nat × Value × Nat) 7 #[true, true, true, true, true, true, true, true, true, true, true, false, true, true, true, true, true, true, false, false, false, false, false, false] (fun s => [(73, .slice (some ⟨s.1, 0, none⟩) 1 1), (74, s.2.1), (78, .slice (some ⟨s.2.2, 0, none⟩) 1 1)]) (fun s w' => Kd.Q (Kd.int .i64) 3 w' 0 (fun b => N1 ≤ b) s.2.1 (ns.take i ++ [k]) ∧ w'.heap[s.2.2]? = some (.cells #[.string str] 9 (0, 0)) ∧ Kp (fun b => (Value.slice A8 i c8).ownBlock = some b) W w' ∧ (∀ b, s.2.1.ownBlock = some b → (Value.slice A8 i c8).ownBlock = some b ∨ W.heap.size ≤ b)) ?_ ?_
                · intro s w' hF
                  refine norm_ (a' := ?_) ?_ ?_
                  rotate_left
                  · simp only [putAll, Act.put, List.setIfInBounds_toArray, List.set_cons_zero, List.set_cons_succ, i64_w, i32_w]
                    rfl
                  obtain ⟨hF1, hF2, hF3, hF4⟩ := hF
                  have hHeld := hS'.out w' (Kp.mono_ hF3 (fun b hb => .inl hb))
                  have hsw := hF3.below.size
                  have r9 := Q_kp (okr := fun b => N1 ≤ b) rfl hR3W.out.r9 hF3 (fun b hb e => own_ne hR3W.out.r9 hR3W.out.r8 (by decide) b hb e)
                  have r10 := Q_kp (okr := fun b => N1 ≤ b) rfl hR3W.out.r10 hF3 (fun b hb e => hR3W.out.far b e hb)
                  have hF1' := Aside0.mk hF1
                  have hF3' := Aside0.mk hF3
                  have hF4' := Aside0.mk hF4
                  have r9' := Aside0.mk r9
                  have r10' := Aside0.mk r10
                  clear hF1 hF3 hF4 r9 r10
                  refine one_ (i := 11) (N := (some 79)) #[true, true, true, true, true, true, true, true, true, true, true, true, true, true, true, true, true, true, false, false, false, false, false, false] rfl rfl (by kernel_rfl) (by decide) (fun K hK => ?_)
                  refine Stp.Q_append_at Kd.string 0 (by rfl) (.tmp 75) (.tmp 78) 36 9 (.string ByteArray.empty) 16 (by rfl) Try.underlying36 infoS rfl (by decide) (by decide) (Value.slice A9 i c9) (ss.take i) str [.string str] (fun b => N1 ≤ b) (fun _ => False) ⟨s.2.2, 0, none⟩ 1 (by rfl) (by rfl) rfl (lit_at hF2) (fun _ hk => hk.elim) (fun b hb => by omega) r9'.out (Nat.zero_le _) (by rw [List.length_take]; have := hlt'.out; omega) ?_
                  intro v5 w5 hR5 hg5 hat5
                  have hK5 : Aside0 (Kp (fun b => (Value.slice A8 i c8).ownBlock = some b ∨ (Value.slice A9 i c9).ownBlock = some b) W w5) := ⟨Kp.grown (ok := (fun b => (Value.slice A8 i c8).ownBlock = some b ∨ (Value.slice A9 i c9).ownBlock = some b)) (Kp.mono_ hF3'.out (fun b hb => .inl hb)) hg5 (fun g e => .inr e)⟩
                  have hF15 := Aside0.mk (Kd.Q_grown2 hF1'.out rfl hg5 (fun b e1 e2 => own_ne r9'.out hF1'.out (by decide) b e1 e2.symm))
                  have h105 := Aside0.mk (Kd.Q_grown2 r10'.out rfl hg5 (fun b e1 e2 => own_ne r9'.out r10'.out (by decide) b e1 e2.symm))
                  have hR5' := Aside0.mk hR5
                  have hs5 : W.heap.size ≤ w5.heap.size := hK5.out.below.size
                  clear hR5 hat5 hg5 hF2
                  refine hK.out _ _ (hS'.out _ (Kp.mono_ (ok := (fun b => (Value.slice A8 i c8).ownBlock = some b ∨ (Value.slice A9 i c9).ownBlock = some b)) (by repeat (first | (with_reducible exact hK5.out) | (with_reducible exact hK7.out) | (with_reducible refine Kp.drew ?_) | (with_reducible refine Kp.alloc ?_ _))) (fun b hb => Or.elim hb (fun h => Or.inl h) (fun h => Or.inr (Or.inl h))))) (fun hHeld => ?_)
                  clear hK K
                  refine norm_ (a' := Act.put _ (some 79) v5) (by rfl) ?_
                  refine one_ (i := 18) (N := (some 86)) #[true, true, true, true, true, true, true, true, true, true, true, true, true, true, true, true, true, true, true, false, false, false, false, false] rfl rfl (by kernel_rfl) (by decide) (fun K hK => ?_)
                  refine goes_ Try.func18 (by kernel_rfl) rfl #[.pointer (some ⟨pd, 0, none⟩), .int .i64 k] (by rfl) rfl rfl (by (try simp only [List.map_toArray, List.map_cons, List.map_nil]); first | done | rfl) ?_
                  with_reducible refine (bSynced (hcS.out w5 (Kp.mono_ hK5.out (fun b hb => Or.elim hb (fun h => Or.inl h) (fun h => Or.inr (Or.inl h))))) (Nat.le_trans hsW hK5.out.below.size) k hdk'.out sy hsyk'.out).mono ?_
                  rintro e w6 ⟨rfl, rfl⟩
                  refine ⟨_, rfl, ?_⟩
                  refine hK.out _ _ (hS'.out _ (Kp.mono_ (ok := (fun b => (Value.slice A8 i c8).ownBlock = some b ∨ (Value.slice A9 i c9).ownBlock = some b)) (by repeat (first | (with_reducible exact hK5.out) | (with_reducible exact hK7.out) | (with_reducible refine Kp.drew ?_) | (with_reducible refine Kp.alloc ?_ _))) (fun b hb => Or.elim hb (fun h => Or.inl h) (fun h => Or.inr (Or.inl h))))) (fun hHeld => ?_)
                  clear hK K
                  refine one_ (i := 19) (N := (some 87)) #[true, true, true, true, true, true, true, true, true, true, true, true, true, true, true, true, true, true, true, true, false, false, false, false] rfl rfl (by kernel_rfl) (by decide) (fun K hK => ?_)
                  go_simp
                  refine hK.out _ _ (hS'.out _ (Kp.mono_ (ok := (fun b => (Value.slice A8 i c8).ownBlock = some b ∨ (Value.slice A9 i c9).ownBlock = some b)) (by repeat (first | (with_reducible exact hK5.out) | (with_reducible exact hK7.out) | (with_reducible refine Kp.drew ?_) | (with_reducible refine Kp.alloc ?_ _))) (fun b hb => Or.elim hb (fun h => Or.inl h) (fun h => Or.inr (Or.inl h))))) (fun hHeld => ?_)
                  clear hK K
                  refine one_ (i := 20) (N := (some 88)) #[true, true, true, true, true, true, true, true, true, true, true, true, true, true, true, true, true, true, true, true, true, false, false, false] rfl rfl (by kernel_rfl) (by decide) (fun K hK => ?_)
                  refine Stp.Q_append_at (Kd.int .i64) 0 (by rfl) (.tmp 80) (.tmp 87) 31 3 (.int .i64 0) 8 (by rfl) Try.underlying31 infoI rfl (by decide) (by decide) (Value.slice A10 i c10) (ys.take i) (sy : Int) [.int .i64 (sy : Nat)] (fun b => N1 ≤ b) (fun _ => False) ⟨w5.heap.size, 0, none⟩ 1 (by rfl) (by rfl) rfl (lit_at (by repeat (first | (with_reducible exact blk_new_at (by simp)) | (with_reducible refine blk_alloc ?_ _) | (with_reducible refine blk_drew ?_)))) (fun _ hk => hk.elim) (fun b hb => by (try simp at hb); omega) (Kd.Q_below h105.out (by repeat (first | (with_reducible exact Below.refl _ _) | (with_reducible refine below_drew ?_) | (with_reducible refine below_alloc ?_ _)))) (Nat.zero_le _) (by rw [List.length_take]; have := hlt'.out; omega) ?_
                  intro v7 w7 hR7 hg7 hat7
                  have hK7 : Aside0 (Kp (okr (Value.slice A8 i c8) (Value.slice A9 i c9) (Value.slice A10 i c10)) W w7) := ⟨Kp.grown (ok := okr (Value.slice A8 i c8) (Value.slice A9 i c9) (Value.slice A10 i c10)) (Kp.mono_ (ok := (fun b => (Value.slice A8 i c8).ownBlock = some b ∨ (Value.slice A9 i c9).ownBlock = some b)) (by repeat (first | (with_reducible exact hK5.out) | (with_reducible refine Kp.drew ?_) | (with_reducible refine Kp.alloc ?_ _))) (fun b hb => Or.elim hb (fun h => Or.inl h) (fun h => Or.inr (Or.inl h)))) hg7 (fun g e => .inr (.inr e))⟩
                  have h8a := Kd.Q_below hF15.out (below_alloc (Below.refl _ _) (.cells #[.int .i64 (sy : Nat)] 3))
                  have h9a := Kd.Q_below hR5'.out (below_alloc (Below.refl _ _) (.cells #[.int .i64 (sy : Nat)] 3))
                  have h8f := Aside0.mk (Kd.Q_grown2 h8a rfl hg7 (fun b e1 e2 => by rcases hF4'.out b e2.symm with e3 | e3; exact hR3W.out.far b e3 e1; have := hlt10.out b e1; omega))
                  have h9f := Aside0.mk (Kd.Q_grown2 h9a rfl hg7 (fun b e1 e2 => own_ne (Kd.Q_below h105.out (below_alloc (Below.refl _ _) (.cells #[.int .i64 (sy : Nat)] 3))) h9a (by decide) b e1 e2.symm))
                  obtain ⟨A8', c8', e8, _⟩ := Kd.Q_slice h8f.out
                  have e8x := Aside0.mk e8
                  obtain ⟨A9', c9', e9, _⟩ := Kd.Q_slice h9f.out
                  have e9x := Aside0.mk e9
                  obtain ⟨A10', c10', e10, _⟩ := Kd.Q_slice hR7
                  have e10x := Aside0.mk e10
                  clear e8 e9 e10
                  have hfar : Aside0 (∀ b, s.2.1.ownBlock = some b → v7.ownBlock ≠ some b) := ⟨fun b e1 e2 => by
                    rcases hat7 with e3 | ⟨b1, e3, hb⟩
                    · rw [e3] at e2
                      rcases hF4'.out b e1 with e4 | e4
                      · exact hR3W.out.far b e4 e2
                      · have := hlt10.out b e2; omega
                    · rw [e3] at e2; cases e2; have := Kd.Q_lt hF15.out b e1; simp at hb; omega⟩
                  have hR7' := Aside0.mk hR7
                  clear hR7 hg7 hat7 h8a h9a
                  refine hK.out _ _ (hS'.out _ hK7.out) (fun hHeld => ?_)
                  clear hK K
                  refine norm_ (a' := Act.put _ (some 88) v7) (by rfl) ?_
                  refine pure_ (i := 21) (N := (some 8)) (v := ?_) (a' := ?_) #[true, true, true, true, true, true, true, true, true, true, true, true, true, true, true, true, true, true, true, true, true, true, false, false] rfl rfl (by kernel_rfl) (fun _ _ _ h => h) (Or.inl ⟨by rfl, ?_⟩) ?_ ?_
                  rotate_left
                  · intro w'
                    go_simp
                    with_reducible rfl
                  rotate_left
                  · simp only [Act.put, List.setIfInBounds_toArray, List.set_cons_zero, List.set_cons_succ, i64_w, i32_w]
                    rfl
                  refine pure_ (i := 22) (N := (some 9)) (v := ?_) (a' := ?_) #[true, true, true, true, true, true, true, true, true, true, true, true, true, true, true, true, true, true, true, true, true, true, true, false] rfl rfl (by kernel_rfl) (fun _ _ _ h => h) (Or.inl ⟨by rfl, ?_⟩) ?_ ?_
                  rotate_left
                  · intro w'
                    go_simp
                    with_reducible rfl
                  rotate_left
                  · simp only [Act.put, List.setIfInBounds_toArray, List.set_cons_zero, List.set_cons_succ, i64_w, i32_w]
                    rfl
                  refine pure_ (i := 23) (N := (some 10)) (v := ?_) (a' := ?_) #[true, true, true, true, true, true, true, true, true, true, true, true, true, true, true, true, true, true, true, true, true, true, true, true] rfl rfl (by kernel_rfl) (fun _ _ _ h => h) (Or.inl ⟨by rfl, ?_⟩) ?_ ?_
                  rotate_left
                  · intro w'
                    go_simp
                    with_reducible rfl
                  rotate_left
                  · simp only [Act.put, List.setIfInBounds_toArray, List.set_cons_zero, List.set_cons_succ, i64_w, i32_w]
                    rfl
                  refine done_ (by kernel_rfl) ?_
                  have hKn := hK7
                  have hR3n : Aside0 (Rows3 w7 N1 s.2.1 v5 v7 (ns.take (i + 1)) (ss.take (i + 1)) (ys.take (i + 1))) := ⟨by
                    rw [htk8.out, htk9.out, htk10.out, hstr'.out]
                    exact ⟨h8f.out, h9f.out, hR7'.out, hfar.out⟩⟩
                  have hi1 : ∀ {α : Type} (L : List α) (x : α), L.length = N → (L.take i ++ [x]).length = i + 1 := fun L x hL => by rw [List.length_append, List.length_take, hL]; have := hlt'.out; simp; omega
                  have e8 := e8x.out
                  have e9 := e9x.out
                  have e10 := e10x.out
                  rw [hi1 _ _ hll.out.1] at e8
                  rw [hi1 _ _ hll.out.2.1] at e9
                  rw [hi1 _ _ hll.out.2.2] at e10
                  have hB5 := Aside0.mk (hcS.out _ hKn.out)
                  have hsz5 : W.heap.size ≤ w7.heap.size := hKn.out.below.size
                  have hX5 : Aside0 (Below w.heap.size w w7) := ⟨hXW.out.trans ((Kp.mono_ (ok' := up w.heap.size) hKn.out (fun b hb => by
                    have h1 := hR3W.out
                    rcases hb with hb | hb | hb
                    · have := h1.r8.1 b hb; show w.heap.size ≤ b; rw [← hN1'.out] at this; omega
                    · have := h1.r9.1 b hb; show w.heap.size ≤ b; rw [← hN1'.out] at this; omega
                    · have := h1.r10.1 b hb; show w.heap.size ≤ b; rw [← hN1'.out] at this; omega)).up hsW)⟩
                  have hn5 := Aside0.mk (C_kp hnW.out hKn.out (fun b hb => hR3W.out.ne (hnW.out.1 b hb)))
                  have e8' := Aside0.mk e8
                  have e9' := Aside0.mk e9
                  have e10' := Aside0.mk e10
                  clear e8 e9 e10 hi1
                  go_wp2_with fail
                  go_roundg k1
                  case measure => have := hk.out; omega
                  case rel =>
                    have hR3m := hR3n.out
                    rw [e8'.out, e9'.out, e10'.out] at hR3m
                    exact ⟨i + 1, A8', c8', A9', c9', A10', c10', by first | go_num | (have := hlt'.out; congr 1; unfold wrap64; omega), e8'.out, e9'.out, e10'.out, ⟨by have := hk.out; omega⟩, ⟨by have := hlt'.out; omega⟩, ⟨hR3m⟩, hB5, hX5, hn5, ⟨by omega⟩⟩
                · intro hj
                  refine two_ (i := 5) (j := 10) (Ni := (some 73)) (Nj := (some 78)) #[true, true, true, true, true, true, false, true, true, true, false, false, true, true, true, true, true, true, false, false, false, false, false, false] #[true, true, true, true, true, false, false, true, true, true, true, false, true, true, true, true, true, true, false, false, false, false, false, false] rfl rfl rfl rfl (by kernel_rfl) (by decide) (by decide) (fun K hK => ?_) (fun K hK => ?_)
                  · go_simp
                    refine hK.out _ _ (hS'.out _ (Kp.mono_ (ok := (fun b => (Value.slice A8 i c8).ownBlock = some b)) (by repeat (first | (with_reducible exact Kp.refl _ _) | (with_reducible exact hKx.out) | (with_reducible refine Kp.drew ?_) | (with_reducible refine Kp.alloc ?_ _))) (fun b hb => .inl hb))) (fun hHeld => ?_)
                    clear hK K
                    refine two_ (i := 6) (j := 10) (Ni := (some 74)) (Nj := (some 78)) #[true, true, true, true, true, true, true, true, true, true, false, false, true, true, true, true, true, true, false, false, false, false, false, false] #[true, true, true, true, true, true, false, true, true, true, true, false, true, true, true, true, true, true, false, false, false, false, false, false] rfl rfl rfl rfl (by kernel_rfl) (by decide) (by decide) (fun K hK => ?_) (fun K hK => ?_)
                    · refine Stp.Q_append_at (Kd.int .i64) 0 (by rfl) (.tmp 68) (.tmp 73) 31 3 (.int .i64 0) 8 (by rfl) Try.underlying31 infoI rfl (by decide) (by decide) (Value.slice A8 i c8) (ns.take i) k [.int .i64 k] (fun b => N1 ≤ b) (fun _ => False) ⟨W.heap.size, 0, none⟩ 1 (by rfl) (by rfl) rfl (lit_at (by repeat (first | (with_reducible exact blk_new_at (by simp)) | (with_reducible refine blk_alloc ?_ _) | (with_reducible refine blk_drew ?_)))) (fun _ hk => hk.elim) (fun b hb => by (try simp at hb); omega) (Kd.Q_below hR3W.out.r8 (by repeat (first | (with_reducible exact Below.refl _ _) | (with_reducible refine below_drew ?_) | (with_reducible refine below_alloc ?_ _)))) (Nat.zero_le _) (by rw [List.length_take]; have := hlt'.out; omega) ?_
                      intro v3 w3 hR3a hg3 hat3
                      have hKx : Aside0 (Kp (fun b => (Value.slice A8 i c8).ownBlock = some b) W w3) := ⟨Kp.grown (ok := (fun b => (Value.slice A8 i c8).ownBlock = some b)) (by repeat (first | (with_reducible exact Kp.refl _ _) | (with_reducible refine Kp.drew ?_) | (with_reducible refine Kp.alloc ?_ _))) hg3 (fun g e => e)⟩
                      have hown3 : Aside0 (∀ b, v3.ownBlock = some b → (Value.slice A8 i c8).ownBlock = some b ∨ W.heap.size ≤ b) := ⟨fun b e => by
                        rcases hat3 with e1 | ⟨b1, e1, hb⟩
                        · exact .inl (e1.symm.trans e)
                        · rw [e1] at e; cases e; simp at hb; exact .inr (by omega)⟩
                      have hR3a' := Aside0.mk hR3a
                      have hg3' := Aside0.mk hg3
                      clear hR3a hat3 hg3
                      refine hK.out _ _ (hS'.out _ (Kp.mono_ (ok := (fun b => (Value.slice A8 i c8).ownBlock = some b)) (by repeat (first | (with_reducible exact Kp.refl _ _) | (with_reducible exact hKx.out) | (with_reducible refine Kp.drew ?_) | (with_reducible refine Kp.alloc ?_ _))) (fun b hb => .inl hb))) (fun hHeld => ?_)
                      clear hK K
                      refine norm_ (a' := Act.put _ (some 74) v3) (by rfl) ?_
                      refine one_ (i := 10) (N := (some 78)) #[true, true, true, true, true, true, true, true, true, true, true, false, true, true, true, true, true, true, false, false, false, false, false, false] rfl rfl (by kernel_rfl) (by decide) (fun K hK => ?_)
                      go_simp
                      refine hK.out _ _ (hS'.out _ (Kp.mono_ (ok := (fun b => (Value.slice A8 i c8).ownBlock = some b)) (by repeat (first | (with_reducible exact Kp.refl _ _) | (with_reducible exact hKx.out) | (with_reducible refine Kp.drew ?_) | (with_reducible refine Kp.alloc ?_ _))) (fun b hb => .inl hb))) (fun hHeld => ?_)
                      clear hK K
                      exact norm_ (by simp only [putAll, Act.put, List.setIfInBounds_toArray, List.set_cons_zero, List.set_cons_succ, i64_w, i32_w]) (hj (W.heap.size, v3, w3.heap.size) _ ⟨(Kd.Q_below hR3a'.out (by repeat (first | (with_reducible exact Below.refl _ _) | (with_reducible refine below_drew ?_) | (with_reducible refine below_alloc ?_ _)))), (by repeat (first | (with_reducible exact blk_new_at (by simp)) | (with_reducible refine blk_grown ?_ hg3'.out (fun e => by have := hlt8.out _ e.symm; (try dsimp only at this); omega)) | (with_reducible refine blk_alloc ?_ _) | (with_reducible refine blk_drew ?_))), (by repeat (first | (with_reducible exact Kp.refl _ _) | (with_reducible exact hKx.out) | (with_reducible refine Kp.drew ?_) | (with_reducible refine Kp.alloc ?_ _))), hown3.out⟩)
                    · go_simp
                      refine hK.out _ _ (hS'.out _ (Kp.mono_ (ok := (fun b => (Value.slice A8 i c8).ownBlock = some b)) (by repeat (first | (with_reducible exact Kp.refl _ _) | (with_reducible exact hKx.out) | (with_reducible refine Kp.drew ?_) | (with_reducible refine Kp.alloc ?_ _))) (fun b hb => .inl hb))) (fun hHeld => ?_)
                      clear hK K
                      refine one_ (i := 6) (N := (some 74)) #[true, true, true, true, true, true, true, true, true, true, true, false, true, true, true, true, true, true, false, false, false, false, false, false] rfl rfl (by kernel_rfl) (by decide) (fun K hK => ?_)
                      refine Stp.Q_append_at (Kd.int .i64) 0 (by rfl) (.tmp 68) (.tmp 73) 31 3 (.int .i64 0) 8 (by rfl) Try.underlying31 infoI rfl (by decide) (by decide) (Value.slice A8 i c8) (ns.take i) k [.int .i64 k] (fun b => N1 ≤ b) (fun _ => False) ⟨W.heap.size, 0, none⟩ 1 (by rfl) (by rfl) rfl (lit_at (by repeat (first | (with_reducible exact blk_new_at (by simp)) | (with_reducible refine blk_alloc ?_ _) | (with_reducible refine blk_drew ?_)))) (fun _ hk => hk.elim) (fun b hb => by (try simp at hb); omega) (Kd.Q_below hR3W.out.r8 (by repeat (first | (with_reducible exact Below.refl _ _) | (with_reducible refine below_drew ?_) | (with_reducible refine below_alloc ?_ _)))) (Nat.zero_le _) (by rw [List.length_take]; have := hlt'.out; omega) ?_
                      intro v3 w3 hR3a hg3 hat3
                      have hKx : Aside0 (Kp (fun b => (Value.slice A8 i c8).ownBlock = some b) W w3) := ⟨Kp.grown (ok := (fun b => (Value.slice A8 i c8).ownBlock = some b)) (by repeat (first | (with_reducible exact Kp.refl _ _) | (with_reducible refine Kp.drew ?_) | (with_reducible refine Kp.alloc ?_ _))) hg3 (fun g e => e)⟩
                      have hown3 : Aside0 (∀ b, v3.ownBlock = some b → (Value.slice A8 i c8).ownBlock = some b ∨ W.heap.size ≤ b) := ⟨fun b e => by
                        rcases hat3 with e1 | ⟨b1, e1, hb⟩
                        · exact .inl (e1.symm.trans e)
                        · rw [e1] at e; cases e; simp at hb; exact .inr (by omega)⟩
                      have hR3a' := Aside0.mk hR3a
                      have hg3' := Aside0.mk hg3
                      clear hR3a hat3 hg3
                      refine hK.out _ _ (hS'.out _ (Kp.mono_ (ok := (fun b => (Value.slice A8 i c8).ownBlock = some b)) (by repeat (first | (with_reducible exact Kp.refl _ _) | (with_reducible exact hKx.out) | (with_reducible refine Kp.drew ?_) | (with_reducible refine Kp.alloc ?_ _))) (fun b hb => .inl hb))) (fun hHeld => ?_)
                      clear hK K
                      refine norm_ (a' := Act.put _ (some 74) v3) (by rfl) ?_
                      exact norm_ (by simp only [putAll, Act.put, List.setIfInBounds_toArray, List.set_cons_zero, List.set_cons_succ, i64_w, i32_w]) (hj (W.heap.size, v3, W.heap.size + 1) _ ⟨hR3a'.out, (by repeat (first | (with_reducible exact blk_new_at (by simp)) | (with_reducible refine blk_grown ?_ hg3'.out (fun e => by have := hlt8.out _ e.symm; (try dsimp only at this); omega)) | (with_reducible refine blk_alloc ?_ _) | (with_reducible refine blk_drew ?_))), (by repeat (first | (with_reducible exact Kp.refl _ _) | (with_reducible exact hKx.out) | (with_reducible refine Kp.drew ?_) | (with_reducible refine Kp.alloc ?_ _))), hown3.out⟩)
                  · go_simp
                    refine hK.out _ _ (hS'.out _ (Kp.mono_ (ok := (fun b => (Value.slice A8 i c8).ownBlock = some b)) (by repeat (first | (with_reducible exact Kp.refl _ _) | (with_reducible exact hKx.out) | (with_reducible refine Kp.drew ?_) | (with_reducible refine Kp.alloc ?_ _))) (fun b hb => .inl hb))) (fun hHeld => ?_)
                    clear hK K
                    refine one_ (i := 5) (N := (some 73)) #[true, true, true, true, true, true, false, true, true, true, true, false, true, true, true, true, true, true, false, false, false, false, false, false] rfl rfl (by kernel_rfl) (by decide) (fun K hK => ?_)
                    go_simp
                    refine hK.out _ _ (hS'.out _ (Kp.mono_ (ok := (fun b => (Value.slice A8 i c8).ownBlock = some b)) (by repeat (first | (with_reducible exact Kp.refl _ _) | (with_reducible exact hKx.out) | (with_reducible refine Kp.drew ?_) | (with_reducible refine Kp.alloc ?_ _))) (fun b hb => .inl hb))) (fun hHeld => ?_)
                    clear hK K
                    refine one_ (i := 6) (N := (some 74)) #[true, true, true, true, true, true, true, true, true, true, true, false, true, true, true, true, true, true, false, false, false, false, false, false] rfl rfl (by kernel_rfl) (by decide) (fun K hK => ?_)
                    refine Stp.Q_append_at (Kd.int .i64) 0 (by rfl) (.tmp 68) (.tmp 73) 31 3 (.int .i64 0) 8 (by rfl) Try.underlying31 infoI rfl (by decide) (by decide) (Value.slice A8 i c8) (ns.take i) k [.int .i64 k] (fun b => N1 ≤ b) (fun _ => False) ⟨W.heap.size + 1, 0, none⟩ 1 (by rfl) (by rfl) rfl (lit_at (by repeat (first | (with_reducible exact blk_new_at (by simp)) | (with_reducible refine blk_alloc ?_ _) | (with_reducible refine blk_drew ?_)))) (fun _ hk => hk.elim) (fun b hb => by (try simp at hb); omega) (Kd.Q_below hR3W.out.r8 (by repeat (first | (with_reducible exact Below.refl _ _) | (with_reducible refine below_drew ?_) | (with_reducible refine below_alloc ?_ _)))) (Nat.zero_le _) (by rw [List.length_take]; have := hlt'.out; omega) ?_
                    intro v3 w3 hR3a hg3 hat3
                    have hKx : Aside0 (Kp (fun b => (Value.slice A8 i c8).ownBlock = some b) W w3) := ⟨Kp.grown (ok := (fun b => (Value.slice A8 i c8).ownBlock = some b)) (by repeat (first | (with_reducible exact Kp.refl _ _) | (with_reducible refine Kp.drew ?_) | (with_reducible refine Kp.alloc ?_ _))) hg3 (fun g e => e)⟩
                    have hown3 : Aside0 (∀ b, v3.ownBlock = some b → (Value.slice A8 i c8).ownBlock = some b ∨ W.heap.size ≤ b) := ⟨fun b e => by
                      rcases hat3 with e1 | ⟨b1, e1, hb⟩
                      · exact .inl (e1.symm.trans e)
                      · rw [e1] at e; cases e; simp at hb; exact .inr (by omega)⟩
                    have hR3a' := Aside0.mk hR3a
                    have hg3' := Aside0.mk hg3
                    clear hR3a hat3 hg3
                    refine hK.out _ _ (hS'.out _ (Kp.mono_ (ok := (fun b => (Value.slice A8 i c8).ownBlock = some b)) (by repeat (first | (with_reducible exact Kp.refl _ _) | (with_reducible exact hKx.out) | (with_reducible refine Kp.drew ?_) | (with_reducible refine Kp.alloc ?_ _))) (fun b hb => .inl hb))) (fun hHeld => ?_)
                    clear hK K
                    refine norm_ (a' := Act.put _ (some 74) v3) (by rfl) ?_
                    exact norm_ (by simp only [putAll, Act.put, List.setIfInBounds_toArray, List.set_cons_zero, List.set_cons_succ, i64_w, i32_w]) (hj (W.heap.size + 1, v3, W.heap.size) _ ⟨hR3a'.out, (by repeat (first | (with_reducible exact blk_new_at (by simp)) | (with_reducible refine blk_grown ?_ hg3'.out (fun e => by have := hlt8.out _ e.symm; (try dsimp only at this); omega)) | (with_reducible refine blk_alloc ?_ _) | (with_reducible refine blk_drew ?_))), (by repeat (first | (with_reducible exact Kp.refl _ _) | (with_reducible exact hKx.out) | (with_reducible refine Kp.drew ?_) | (with_reducible refine Kp.alloc ?_ _))), hown3.out⟩)
            · have hd : decide ((i : Int) < (N : Int)) = false := decide_eq_false (by omega)
              have hd' : decide (i < N) = false := decide_eq_false hlt
              have hiN : Aside0 (i = N) := ⟨by have := hi.out; omega⟩
              go_wp2_with fail
              go_meet
              have e := hiN.out
              have hfin := hR3.out
              rw [e] at hfin ⊢
              have e8 : ns.take N = ns := List.take_of_length_le (by rw [hll.out.1]; exact Nat.le_refl _)
              have e9 : ss.take N = ss := List.take_of_length_le (by rw [hll.out.2.1]; exact Nat.le_refl _)
              have e10 : ys.take N = ys := List.take_of_length_le (by rw [hll.out.2.2]; exact Nat.le_refl _)
              rw [e8, e9, e10] at hfin
              exact ⟨_, _, _, _, _, _, rfl, rfl, rfl, ⟨hfin⟩, hBo, hB⟩
        case rest =>
          obtain ⟨A8, c8, A9, c9, A10, c10, rfl, rfl, rfl, hR3, hBo, hB⟩ := hcut
          have hszc : w.heap.size ≤ wc.heap.size := hB.out.size
          have hk100 : keep.length ≤ 100 := by have := hk100'.out; omega
          have hcr := Aside0.mk (bCrash hBo.out hszc hI.out hn400 A5 cp5 keep (fun w1 h1 => Kd.C_below hCk'.out (hB.out.trans h1.below)) hk100 hck'.out)
          have hel2 : Aside0 (∀ i, i < N → ∃ k q sy st, ns[i]? = some k ∧ ss[i]? = some (strOfNums q) ∧ ys[i]? = some ((sy : Nat) : Int) ∧ domI k ∧ (sg (dcrash S keep).L k).2 = st ∧ dread (dcrash S keep) k = q.take st ∧ st ≤ q.length ∧ sy ≤ st ∧ q.length ≤ 50000000) := ⟨fun i hi => by
            obtain ⟨k, q, sy, hq, h1, h2, h3, _, h4, _, h5, h6⟩ := hel.out i hi
            obtain ⟨h7, h8⟩ := after_crash hI.out keep hq
            have h9 := stay_le keep i (q, sy) h5
            exact ⟨k, q, sy, _, h1, h2, h3, h4, h7, h8, h9.1, h9.2, h6⟩⟩
          have hI2 := Aside0.mk (hI.out.crash keep)
          have hdn : (dcrash S keep).down = false := rfl
          have hnl : (nums (dcrash S keep).L).length ≤ N := by
            rw [len_nums, (hI.out.crash keep).perm.length_eq, ← hN'.out]
            have h1 := (rcrash_keys keep R.L 0).length_le
            rw [List.length_map, List.length_map] at h1
            exact h1
          have hl2 : (dcrash S keep).L.length ≤ 100000 := by rw [← len_nums]; omega
          obtain ⟨S2, hS2⟩ : ∃ S2, dcrash S keep = S2 := ⟨_, rfl⟩
          rw [hS2] at hcr hel2 hdn hnl hl2 hI2
          obtain ⟨n2, hn2⟩ : ∃ n2, (nums S2.L).length = n2 := ⟨_, rfl⟩
          rw [hn2] at hnl
          have hn2' := Aside0.mk hn2
          have hdn' := Aside0.mk hdn
          have hl2' := Aside0.mk hl2
          have hle2 : decide ((n2 : Int) ≤ (N : Int)) = true := decide_eq_true (by omega)
          clear hS2 hn2 hdn hl2 hsg' hB4 hX4 hns4
          go_wp2_with fail
          refine hcr.out.mono ?_
          rintro e w6 ⟨rfl, hB6, hn6⟩
          have hs6 : w.heap.size ≤ w6.heap.size := Nat.le_trans hszc hn6.size
          have hB6' := Aside0.mk hB6
          have hX6 := Aside0.mk (hB.out.trans hn6.below)
          have hR6 := Aside0.mk (hR3.out.nx hn6)
          clear hB6 hn6 hR3 hBo hB hcr hszc
          go_wp2_with fail
          go_loopg [95] (N + 1) (fun kq v95 w' => ∃ (i : Nat), v95 = .int .i64 (i : Int) ∧ Aside0 (kq + i = N + 1) ∧ Aside0 (i ≤ N) ∧ Aside0 (Below w6.heap.size w6 w'))
          case atStart => exact ⟨0, rfl, ⟨by omega⟩, ⟨by omega⟩, ⟨Below.refl _ _⟩⟩
          case round =>
            obtain ⟨i, rfl, hk, hi, hB⟩ := hrel
            have hsr : w.heap.size ≤ wr.heap.size := Nat.le_trans hs6 hB.out.size
            have hBr := Aside0.mk (hB6'.out.below hB.out)
            by_cases hlt : i < N
            · have hd : decide ((i : Int) < (N : Int)) = true := decide_eq_true (by omega)
              have hd' : decide (i < N) = true := decide_eq_true hlt
              cases gk with
              | zero => exact absurd hk.out (by omega)
              | succ k1 =>
                obtain ⟨k, q, sy, st, hn1, hs1, hy1, hdk, hsk, hrk, hst1, hst2, hql⟩ := hel2.out i hlt
                have hlt' := Aside0.mk hlt
                have p1 : 0 ≤ (i : Int) := by omega
                have q1 : (i : Int) < (N : Int) := by omega
                have hRr := hR6.out.below hB.out
                obtain ⟨ad8, hA8, hc8⟩ := Q_at_int hRr.r8 hlt
                obtain ⟨ad9, hA9, hc9⟩ := Q_at_str hRr.r9 hlt
                obtain ⟨ad10, hA10, hc10⟩ := Q_at_int hRr.r10 hlt
                subst hA8 hA9 hA10
                have hr8 : rd ns (i : Int) = k := by unfold rd; rw [Int.toNat_natCast, List.getD_eq_getElem?_getD, hn1]; rfl
                have hr9 : rdOf ByteArray.empty ss (i : Int) = strOfNums q := by unfold rdOf; rw [Int.toNat_natCast, List.getD_eq_getElem?_getD, hs1]; rfl
                have hr10 : rd ys (i : Int) = ((sy : Nat) : Int) := by unfold rd; rw [Int.toNat_natCast, List.getD_eq_getElem?_getD, hy1]; rfl
                rw [hr8] at hc8
                rw [hr9] at hc9
                rw [hr10] at hc10
                obtain ⟨str, hstr⟩ : ∃ str, strOfNums q = str := ⟨_, rfl⟩
                have hsz : str.size = q.length := by rw [← hstr, strOfNums_size]
                have hext : str.extract 0 st = strOfNums (q.take st) := by rw [← hstr]; exact str_take q st hst1
                rw [hstr] at hc9
                obtain ⟨E, hE⟩ : ∃ E, dfind S2 k = E := ⟨_, rfl⟩
                have hrdc := bRead hBr.out hsr hI2.out hn400 k hdk (q.take st) E hrk hE
                have htl : (q.take st).length = st := by rw [List.length_take]; omega
                rw [htl] at hrdc
                obtain ⟨y, hy⟩ : ∃ y, q.take st = y := ⟨_, rfl⟩
                rw [hy] at hrdc hext
                obtain ⟨sy2, hsy2⟩ : ∃ sy2, strOfNums y = sy2 := ⟨_, rfl⟩
                rw [hsy2] at hext
                have hrdc' := Aside0.mk hrdc
                have hyl := Aside0.mk (show y.length = st by rw [← hy]; exact htl)
                have hsy2' := Aside0.mk hsy2
                have hsk' := Aside0.mk hsk
                have hdk' := Aside0.mk hdk
                have hszz : str.size ≤ 50000000 := by omega
                have g1 : decide ((st : Int) < (sy : Int)) = false := decide_eq_false (by omega)
                have g2 : decide ((st : Int) > (str.size : Int)) = false := decide_eq_false (by omega)
                have g3 : decide ((str.size : Int) < (st : Int)) = false := decide_eq_false (by omega)
                have g4 : (st : Int) ≤ (str.size : Int) := by omega
                have g5 : decide (st < sy) = false := decide_eq_false (by omega)
                have g6 : decide (str.size < st) = false := decide_eq_false (by omega)
                have g7 : st ≤ str.size := by omega
                clear hn1 hs1 hy1 hdk hsk hrk hRr hr8 hr9 hr10 hstr hE htl hy hsy2 hrdc hlt hql hsz
                go_upto_region 26 with (first | (go_at_call 17; (with_reducible refine hrdc'.out.mono ?_); rintro e W ⟨A3, c3, rfl, hRw, hbW⟩; have hRw' := Aside0.mk hRw; have hbW' := Aside0.mk hbW; clear hRw hbW) | fail)
                have x8 := keepx hc8 hbW'.out
                have x9 := keepx hc9 hbW'.out
                have x10 := keepx hc10 hbW'.out
                have s1 := fun m : Nat => Kd.C_string (P := Try.prog) (c := c3) Try.underlying30 Try.underlying5 Try.underlying9 (Kd.C_below (Kd.R_reads' hRw'.out).2.2 (pw_below_drewN (Below.refl _ _) m))
                rw [hyl.out, hsy2'.out] at s1
                have hBW := Aside0.mk (hBr.out.below hbW'.out)
                have hsW : w.heap.size ≤ W.heap.size := Nat.le_trans hsr hbW'.out.size
                have hsc := fun m : Nat => bSynced (hBW.out.below (pw_below_drewN (Below.refl _ _) m)) hsW k hdk'.out st hsk'.out
                have hsc' : Aside0 (∀ m : Nat, Calls Try.prog 18 #[.pointer (some ⟨pd, 0, none⟩), .int .i64 k] (W.drewN m) fun e w' => e = .returned (.int .i64 (st : Int)) ∧ w' = W.drewN m) := ⟨fun m => (hsc m).mono (by rintro e w' ⟨rfl, rfl⟩; exact ⟨rfl, rfl⟩)⟩
                clear hc8 hc9 hc10 hsc
                go_quiet (first | (go_at_call 18; exact Calls.quiet_of_same (hsc'.out _)))
                go_wp2_with fail
                go_roundg k1
                case measure => have := hk.out; omega
                case rel => exact ⟨i + 1, by first | go_num | (have := hlt'.out; congr 1; unfold wrap64; omega), ⟨by have := hk.out; omega⟩, ⟨by have := hlt'.out; omega⟩, ⟨pw_below_drewN (hB.out.trans (hbW'.out.mono hB.out.size)) _⟩⟩
            · have hd : decide ((i : Int) < (N : Int)) = false := decide_eq_false (by omega)
              have hd' : decide (i < N) = false := decide_eq_false hlt
              have hle3 : decide (n2 ≤ N) = true := decide_eq_true (by omega)
              have hdw := bDown' hBr.out hsr
              rw [hdn'.out] at hdw
              have hsg2 := Aside0.mk (bSegs' hBr.out hsr hl2'.out n2 hn2'.out)
              have hdw' := Aside0.mk hdw
              have hXr := Aside0.mk (hX6.out.trans (hB.out.mono hs6))
              clear hdw
              go_wp2_with (first
                | (go_at_call 20; (with_reducible refine hdw'.out.mono ?_); rintro e w7 ⟨rfl, rfl⟩)
                | (go_at_call 16; (with_reducible refine hsg2.out.mono ?_); rintro e w8 ⟨Aq, cq, rfl, hb8⟩; have hb8' := Aside0.mk hb8; clear hb8)
                | fail)
              go_ret
              exact ⟨by simp, hXr.out.trans (hb8'.out.mono hXr.out.size)⟩
end Go.Proofs.Ytnplnelhodnonaa.Dsk
