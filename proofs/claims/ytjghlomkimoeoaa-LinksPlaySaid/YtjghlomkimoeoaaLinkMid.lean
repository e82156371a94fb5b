/- What is kept while a line is written. -/
import Derived.Test.YtjghlomkimoeoaaLinkCalls
import Derived.Test.YtjghlomkimoeoaaSteps
namespace Go.Proofs.Ytjghlomkimoeoaa.Lnk
open Go.RowKit Go.Proofs.YtjghlomkimoeoaaW.PrintWords Go.Proofs.YtjghlomkimoeoaaW.PrintLast Go.Proofs.YtjghlomkimoeoaaW.PrintMore Go.Proofs.Ytjghlomkimoeoaa.PLinksPlay
open Amap
set_option linter.unusedVariables false
set_option linter.unusedSimpArgs false
section
variable {w w1 : World} {b : Nat} {es : Array MapEntry} {cl : Nat}
theorem Q_map {α : Type} {d : Kd α} {e base : Nat} {ok : Nat → Prop} {v : Value} {xs : List α} (h : d.Q e w base ok v xs) (hb : w.heap[b]? = some (.map es cl)) (hg : w.grownBy w1 (some b)) : d.Q e w1 base ok v xs :=
  Kd.Q_mono (Kd.Q_move (Kd.Q_bound h) (fun k hk => hg.block k hk.2.2.1 (fun e1 => by
    obtain ⟨_, _, _, q, _, cells, hc⟩ := hk
    injection e1 with e1
    subst e1
    rw [hc] at hb
    cases hb))) (fun _ hk => hk.1)
theorem R_map {α : Type} {d : Kd α} {e base : Nat} {ok : Nat → Prop} {v : Value} {xs : List α} (h : d.R e w base ok v xs) (hb : w.heap[b]? = some (.map es cl)) (hg : w.grownBy w1 (some b)) : d.R e w1 base ok v xs :=
  Kd.R_mono (Kd.R_move (Kd.R_bound h) (fun k hk => hg.block k hk.2.2.1 (fun e1 => by
    obtain ⟨_, _, _, q, _, cells, hc⟩ := hk
    injection e1 with e1
    subst e1
    rw [hc] at hb
    cases hb))) (fun _ hk => hk.1)
theorem cell_no_map {ad : Addr} {u : Value} (hb : w.heap[b]? = some (.map es cl)) (hc : w.cell? ad = some u) : ad.block ≠ b := by
  rintro rfl
  simp [World.cell?, hb] at hc
theorem C_map {A : Option Addr} {n : Nat} {x : List Int} (h : Kd.C (Kd.int .u8) w A n x) (hb : w.heap[b]? = some (.map es cl)) (hg : w.grownBy w1 (some b)) : Kd.C (Kd.int .u8) w1 A n x := by
  refine Kd.C_keep (g := b) (0 : Int) h ⟨hg.size, fun i hi hne _ => hg.block i hi (by simpa using hne)⟩ (fun ad he hn => ?_)
  subst he
  obtain ⟨ad', c, e1, hl, hK, hc⟩ := Kd.C_get h 0 (0 : Int) (by omega) (by omega)
  cases e1
  obtain rfl : c = _ := hK
  have h0 := hc 0 _ rfl
  have := cell_no_map hb h0
  simpa [Addr.add] using this
end
theorem Q_off {w w1 : World} {base : Nat} {ok : Nat → Prop} {u : Value} {ys : List (List Int)} (h : Kd.Q kB 25 w base ok u ys) {row : Option Nat} (hrow : ∀ g, row = some g → u.ownBlock ≠ some g ∧ ∃ cells, w.heap[g]? = some (.cells cells 25 (0, 0))) (hg : w.grownBy w1 row) : Kd.Q kB 25 w1 base ok u ys := by
  obtain ⟨h0, inner, ho, hr⟩ := h
  refine ⟨h0, inner, q_move ho (fun k hk => hg.block k (q_lt ho k hk) (fun e => (hrow k e.symm).1 hk)), hr.imp_ (fun x c hp => ?_)⟩
  refine Kd.M_mono kB (fun k hk => hk.1) (Kd.M_move kB (fun k hk => hg.block k hk.2.2.1 (fun e => ?_)) (Kd.M_bound kB hp))
  obtain ⟨_, _, _, q, hq, cells, hc⟩ := hk
  obtain ⟨_, cells', hc'⟩ := hrow k e.symm
  rw [hc] at hc'
  injection hc' with hc'
  injection hc' with _ ht _
  have h5 : q = 5 := by simpa [kB, Kd.slice, Kd.int, Kd.scalar] using hq
  rw [h5] at ht
  cases ht
/-- What is kept, from W on, while the line of key k is written. -/
structure Mid (ok : Nat → Prop) (W : World) (M : List (Key × Ln)) (k : Key) (cur : World) : Prop where
  fr : Fr [25] true 0 W cur
  kp : Kp ok W cur
  oth : ∀ q ∈ M, q.1 ≠ k → Kd.Q kB 25 cur 0 ok q.2.1 q.2.2
section
variable {ok : Nat → Prop} {W cur cur1 : World} {M : List (Key × Ln)} {k : Key}
theorem Mid.start {p b : Nat} {S : LSt} (h : LinkAt ok W p S M b) (k : Key) : Mid ok W M k W := ⟨Fr.refl _ _ _ _, Kp.refl _ _, fun q hq _ => h.rows q hq⟩
theorem Mid.below (m : Mid ok W M k cur) (hb : Below cur.heap.size cur cur1) : Mid ok W M k cur1 :=
  ⟨m.fr.trans (Fr.of_below (Nat.zero_le _) hb _ _), m.kp.trans (Kp.of_below hb _), fun q hq hne => Kd.Q_below (m.oth q hq hne) hb⟩
theorem Mid.drew (m : Mid ok W M k cur) : Mid ok W M k cur.drew := ⟨m.fr.drew, m.kp.drew, fun q hq hne => Kd.Q_drew (m.oth q hq hne)⟩
theorem Mid.alloc (m : Mid ok W M k cur) (o : Obj) : Mid ok W M k (cur.alloc o) := ⟨m.fr.alloc (Nat.zero_le _) o, m.kp.alloc o, fun q hq hne => Kd.Q_alloc (m.oth q hq hne) o⟩
theorem Mid.map (m : Mid ok W M k cur) {b : Nat} {es : Array MapEntry} {cl : Nat} (hbb : ok b) (hb : cur.heap[b]? = some (.map es cl)) (hg : cur.grownBy cur1 (some b)) : Mid ok W M k cur1 :=
  ⟨m.fr.grown hg (Nat.zero_le _) (fun g e => by
    injection e with e
    subst e
    refine ⟨Nat.zero_le _, fun o ho => ?_⟩
    rw [hb] at ho
    cases ho
    simp [Still]), m.kp.grown hg (fun g e => by injection e with e; subst e; exact hbb), fun q hq hne => Q_map (m.oth q hq hne) hb hg⟩
theorem Mid.row (m : Mid ok W M k cur) {v : Value} {xs : List (List Int)} (hv : Kd.Q kB 25 cur 0 ok v xs) (hap : ∀ q ∈ M, q.1 ≠ k → ∀ g, v.ownBlock = some g → q.2.1.ownBlock ≠ some g) (hg : cur.grownBy cur1 v.ownBlock) : Mid ok W M k cur1 :=
  ⟨m.fr.grown hg (Nat.zero_le _) (fun g e => by
    refine ⟨Nat.zero_le _, fun o ho => ?_⟩
    obtain ⟨cells, hc⟩ := Kd.Q_typed hv g e
    rw [hc] at ho
    cases ho
    simp [Still]), m.kp.grown hg (fun g e => hv.1 g e), fun q hq hne => Q_off (m.oth q hq hne) (fun g e => ⟨hap q hq hne g e, Kd.Q_typed hv g e⟩) hg⟩
end
theorem tot_put (L : List (Key × List (List Int))) (k : Key) (xs : List (List Int)) : tot (mput L k xs) + (line L k).length = tot L + xs.length := by
  induction L with
  | nil => simp [mput, tot, line, mlook]
  | cons q L ih =>
    unfold mput line mlook
    by_cases h : q.1 = k
    · simp only [h, if_true, tot, Option.getD_some]; omega
    · simp only [if_neg h, tot]
      unfold line at ih
      omega
theorem map_put (M : List (Key × Ln)) (k : Key) (v : Value) (xs : List (List Int)) : (mput M k (v, xs)).map (fun q => (q.1, q.2.2)) = mput (M.map (fun q => (q.1, q.2.2))) k xs := by
  induction M with
  | nil => rfl
  | cons q M ih =>
    simp only [mput, List.map_cons]
    split
    · rfl
    · simp only [List.map_cons, ih]
theorem mem_put {κ α : Type} [DecidableEq κ] {m : List (κ × α)} {x : κ} {v : α} {p : κ × α} (hn : (m.map (·.1)).Nodup) (h : p ∈ mput m x v) : p = (x, v) ∨ (p ∈ m ∧ p.1 ≠ x) := by
  induction m with
  | nil => simp [mput] at h; exact .inl h
  | cons q m ih =>
    rw [List.map_cons, List.nodup_cons] at hn
    unfold mput at h
    split at h
    · rename_i e
      rcases List.mem_cons.1 h with h | h
      · exact .inl h
      · refine .inr ⟨List.mem_cons_of_mem _ h, fun e2 => hn.1 ?_⟩
        rw [e, ← e2]
        exact List.mem_map.2 ⟨p, h, rfl⟩
    · rename_i e
      rcases List.mem_cons.1 h with h | h
      · subst h; exact .inr ⟨List.mem_cons_self .., e⟩
      · rcases ih hn.2 h with h | ⟨h, h2⟩
        · exact .inl h
        · exact .inr ⟨List.mem_cons_of_mem _ h, h2⟩
/-- The links with one line written. -/
theorem LinkAt.put {ok : Nat → Prop} {W w1 w2 : World} {p : Nat} {S : LSt} {M : List (Key × Ln)} {b : Nat} (h : LinkAt ok W p S M b) {k : Key} (m : Mid ok W M k w1) {v : Value} {xs : List (List Int)} (hm : MapIs ekey lval domK w1 b (mput M k (v, xs)))
    (hv : Kd.Q kB 25 w1 0 ok v xs) (hap : ∀ q ∈ M, q.1 ≠ k → ∀ g, v.ownBlock = some g → q.2.1.ownBlock ≠ some g) {t : Int} (ht : t = (tot (mput S.L k xs) : Nat)) (hw2 : w2 = w1.setCell ⟨p, 2, none⟩ (.int .i64 t)) :
    LinkAt ok w2 p ⟨S.parties, mput S.L k xs⟩ (mput M k (v, xs)) b ∧ Fz ok W w2 := by
  have hp1 : w1.heap[p]? = some (.cells #[.int .i64 S.parties, .map (some b), .int .i64 (tot S.L : Nat)] 115 (0, 0)) := m.fr.same p _ h.blk (by simp [Still])
  have hty : ∀ q, q ∈ 25 :: kB.E → q ≠ 115 := by intro q hq; simp [kB, Kd.slice, Kd.int, Kd.scalar] at hq; omega
  subst hw2
  obtain ⟨es, clock, hb, _, _, hn, _⟩ := h.map
  obtain ⟨es1, clock1, hb1, _⟩ := id hm
  have hbp : b ≠ p := by rintro rfl; rw [hb1] at hp1; cases hp1
  refine ⟨⟨h.pk, ?_, h.bk, hm.move (Below.heap_setCell w1 ⟨p, 2, none⟩ _ b hbp), ?_, ?_, ?_⟩, ⟨(m.fr.mono (T' := [115, 25]) (by simp) (fun h => h)).set hp1 (by simp) (Nat.zero_le _) 2 _, m.kp.set h.pk 2 _⟩⟩
  · rw [ht]; exact blk_put hp1 2 _ rfl
  · show mput S.L k xs = _
    rw [map_put, h.L]
  · intro q hq
    rcases mem_put hn hq with rfl | ⟨hq, hne⟩
    · exact Kd.Q_set hv hp1 hty 2 _
    · exact Kd.Q_set (m.oth q hq hne) hp1 hty 2 _
  · intro q hq q' hq' hne g hg
    rcases mem_put hn hq with rfl | ⟨hq, hnk⟩
    · rcases mem_put hn hq' with rfl | ⟨hq', hnk'⟩
      · exact absurd rfl hne
      · exact hap q' hq' hnk' g hg
    · rcases mem_put hn hq' with rfl | ⟨hq', hnk'⟩
      · intro e; exact hap q hq hnk g e hg
      · exact h.apart q hq q' hq' hne g hg
end Go.Proofs.Ytjghlomkimoeoaa.Lnk
