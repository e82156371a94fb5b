/- Outboxes beside the document's. -/
import Derived.Test.YtdglbiafpofeeaaOutRFor
namespace Go.Proofs.Ytdglbiafpofeeaa.Obx
open Go.RowKit Go.Proofs.YtdglbiafpofeeaaW.PrintWords Go.Proofs.YtdglbiafpofeeaaW.PrintLast Go.Proofs.YtdglbiafpofeeaaW.PrintMore Go.Proofs.Ytdglbiafpofeeaa.POutboxNil
open Frm
set_option linter.unusedVariables false
set_option linter.unusedSimpArgs false
def Both (base : Nat) (w : World) (po pw : Nat) (L L' : List Lt) : Prop := ∃ ok : Nat → Prop, IsO 74 59 (fun k => base ≤ k ∧ ok k) w po L ∧ IsO 72 75 (fun k => base ≤ k ∧ ¬ ok k) w pw L'
structure Nx (T : List Nat) (base : Nat) (w w' : World) : Prop where
  below : Below base w w'
  fr : Fr T false 0 w w'
section
variable {base po pw : Nat} {w w1 : World} {L L' : List Lt}
theorem Nx.refl (T : List Nat) (base : Nat) (w : World) : Nx T base w w := ⟨Below.refl _ _, Fr.refl _ _ _ _⟩
theorem Nx.size {T : List Nat} (h : Nx T base w w1) : w.heap.size ≤ w1.heap.size := h.below.size
theorem Nx.trans {T : List Nat} {w2 : World} (h : Nx T base w w1) (k : Nx T base w1 w2) : Nx T base w w2 := ⟨h.below.trans k.below, h.fr.trans k.fr⟩
theorem Nx.drew {T : List Nat} (n : Nx T base w w1) : Nx T base w w1.drew := ⟨below_drew n.below, n.fr.drew⟩
theorem Nx.mono {T T' : List Nat} (n : Nx T base w w1) (H : ∀ t, t ∈ T → t ∈ T') : Nx T' base w w1 := ⟨n.below, n.fr.mono H (fun h => h)⟩
theorem Nx.blk {T : List Nat} (n : Nx T base w w1) {g t : Nat} {cs : Array Value} {z : Nat × Nat} (h : w.heap[g]? = some (.cells cs t z)) (ht : t ∉ T) : w1.heap[g]? = some (.cells cs t z) := n.fr.same g _ h ht
theorem Both.below (h : Both base w po pw L L') (hb : Below w.heap.size w w1) : Both base w1 po pw L L' := by
  obtain ⟨ok, h1, h2⟩ := h
  exact ⟨ok, h1.below hb, h2.below hb⟩
theorem up_below {ok : Nat → Prop} {T : List Nat} (hf : Fk T ok w w1) (hbase : base ≤ w.heap.size) (hup : ∀ k, ok k → base ≤ k) : Below base w w1 :=
  (show Kp (up base) w w1 from ⟨hf.kp.below, fun k hk hn => hf.kp.same k hk (fun e => hn (hup k e))⟩).up hbase
theorem Both.real (h : Both base w po pw L L') (hbase : base ≤ w.heap.size) : ∃ ok : Nat → Prop, (∀ k, w.heap.size ≤ k → ok k) ∧ IsO 74 59 ok w po L ∧ ∀ w' L1, IsO 74 59 ok w' po L1 → Fk [74, 59] ok w w' → Both base w' po pw L1 L' ∧ Nx [74, 59] base w w' := by
  obtain ⟨ok, h1, h2⟩ := h
  have hup : ∀ k, ((base ≤ k ∧ ok k) ∨ w.heap.size ≤ k) → base ≤ k := fun k hk => by
    rcases hk with hk | hk
    · exact hk.1
    · omega
  refine ⟨fun k => (base ≤ k ∧ ok k) ∨ w.heap.size ≤ k, fun k hk => .inr hk, h1.refoot (fun k hk _ => .inl hk), fun w' L1 h3 hf => ⟨⟨fun k => (base ≤ k ∧ ok k) ∨ w.heap.size ≤ k, h3.refoot (fun k hk _ => ⟨hup k hk, hk⟩), ?_⟩, up_below hf hbase hup, hf.fr⟩⟩
  have h4 : ∀ k, (base ≤ k ∧ ¬ ok k) → k < w.heap.size → ¬ ((base ≤ k ∧ ok k) ∨ w.heap.size ≤ k) := fun k hk hl e => by
    rcases e with e | e
    · exact hk.2 e.2
    · omega
  have h5 := h2.refoot (ok' := fun k => (base ≤ k ∧ ¬ ((base ≤ k ∧ ok k) ∨ w.heap.size ≤ k)) ∧ k < w.heap.size) (fun k hk hl => ⟨⟨hk.1, h4 k hk hl⟩, hl⟩)
  exact (h5.move (fun k hk hl => hf.kp.same k hl hk.1.2)).refoot (fun k hk _ => hk.1)
theorem Both.ref (h : Both base w po pw L L') (hbase : base ≤ w.heap.size) : ∃ ok : Nat → Prop, (∀ k, w.heap.size ≤ k → ok k) ∧ IsO 72 75 ok w pw L' ∧ ∀ w' L1, IsO 72 75 ok w' pw L1 → Fk [72, 75] ok w w' → Both base w' po pw L L1 ∧ Nx [72, 75] base w w' := by
  obtain ⟨ok, h1, h2⟩ := h
  have hup : ∀ k, ((base ≤ k ∧ ¬ ok k) ∨ w.heap.size ≤ k) → base ≤ k := fun k hk => by
    rcases hk with hk | hk
    · exact hk.1
    · omega
  refine ⟨fun k => (base ≤ k ∧ ¬ ok k) ∨ w.heap.size ≤ k, fun k hk => .inr hk, h2.refoot (fun k hk _ => .inl hk), fun w' L1 h3 hf => ⟨⟨fun k => ok k ∧ k < w.heap.size, ?_, h3.refoot (fun k hk _ => ⟨hup k hk, ?_⟩)⟩, up_below hf hbase hup, hf.fr⟩⟩
  · have h5 := h1.refoot (ok' := fun k => (base ≤ k ∧ ok k) ∧ k < w.heap.size) (fun k hk hl => ⟨hk, hl⟩)
    exact (h5.move (fun k hk hl => hf.kp.same k hl (fun e => by
      rcases e with e | e
      · exact e.2 hk.1.2
      · omega))).refoot (fun k hk _ => ⟨hk.1.1, hk.1.2, hk.2⟩)
  · rintro ⟨h7, h8⟩
    rcases hk with hk | hk
    · exact hk.2 h7
    · omega
theorem Nx.of_below {T : List Nat} (hbase : base ≤ w.heap.size) (hb : Below w.heap.size w w1) : Nx T base w w1 := ⟨hb.mono hbase, Fr.of_below (Nat.zero_le _) hb _ _⟩
theorem oPut (h : Both base w po pw L L') (hbase : base ≤ w.heap.size) (hg : Good L) (x : Lt) (L1 : List Lt) (E : Int) (hE : put L x = (L1, E)) :
    Calls Try.prog 25 #[.pointer (some ⟨po, 0, none⟩), .int .i64 x.to, .agg #[.int .i64 x.kind, .int .i64 x.inst, .int .i64 x.turn, .string x.name, .int .i64 x.att, .bool x.ok]] w fun e w' => e = .returned (.int .i64 E) ∧ Both base w' po pw L1 L' ∧ Nx [74, 59] base w w' := by
  cases hc : (formed x.kind x.inst x.turn x.name x.att x.ok && decide (x.kind ≤ 2) && decide (0 ≤ x.to)) with
  | false =>
    have e1 : put L x = (L, 1) := by unfold put; rw [if_pos hc]
    rw [e1] at hE
    cases hE
    refine (Put_no x hc po w).mono ?_
    rintro e w' ⟨rfl, hb⟩
    exact ⟨rfl, h.below hb, Nx.of_below hbase hb⟩
  | true =>
    obtain ⟨ok, hok, hL, hnext⟩ := h.real hbase
    refine (Put_fit L (by have := hg.len; omega) x hc ok po w hok hL).mono ?_
    rintro e w' ⟨rfl, h1, h2⟩
    rw [hE] at h1 ⊢
    exact ⟨rfl, hnext _ _ h1 h2⟩
theorem rPut (h : Both base w po pw L' L) (hbase : base ≤ w.heap.size) (hg : Good L) (x : Lt) (L1 : List Lt) (E : Int) (hE : put L x = (L1, E)) :
    Calls Try.prog 29 #[.pointer (some ⟨pw, 0, none⟩), .int .i64 x.to, .agg #[.int .i64 x.kind, .int .i64 x.inst, .int .i64 x.turn, .string x.name, .int .i64 x.att, .bool x.ok]] w fun e w' => e = .returned (.int .i64 E) ∧ Both base w' po pw L' L1 ∧ Nx [72, 75] base w w' := by
  cases hc : (formed x.kind x.inst x.turn x.name x.att x.ok && decide (x.kind ≤ 2) && decide (0 ≤ x.to)) with
  | false =>
    have e1 : put L x = (L, 1) := by unfold put; rw [if_pos hc]
    rw [e1] at hE
    cases hE
    refine (rPut_no x hc pw w).mono ?_
    rintro e w' ⟨rfl, hb⟩
    exact ⟨rfl, h.below hb, Nx.of_below hbase hb⟩
  | true =>
    obtain ⟨ok, hok, hL, hnext⟩ := h.ref hbase
    refine (rPut_fit L (by have := hg.len; omega) x hc ok pw w hok hL).mono ?_
    rintro e w' ⟨rfl, h1, h2⟩
    rw [hE] at h1 ⊢
    exact ⟨rfl, hnext _ _ h1 h2⟩
theorem oAnswer (h : Both base w po pw L L') (hbase : base ≤ w.heap.size) (hg : Good L) (k i t : Int) (s : ByteArray) (a : Int) (o : Bool) (hk : (Lit.int .i64 k).wf = true) (L1 : List Lt) (x1 : Lt) (b1 : Bool) (hr : answer L k i t a = (L1, x1, b1)) :
    Calls Try.prog 24 #[.pointer (some ⟨po, 0, none⟩), .agg #[.int .i64 k, .int .i64 i, .int .i64 t, .string s, .int .i64 a, .bool o]] w fun e w' => e = .returned (.tuple #[.agg #[.int .i64 x1.to, .int .i64 x1.kind, .int .i64 x1.inst, .int .i64 x1.turn, .string x1.name, .int .i64 x1.att, .bool x1.ok], .bool b1]) ∧ Both base w' po pw L1 L' ∧ Nx [74, 59] base w w' := by
  obtain ⟨ok, hok, hL, hnext⟩ := h.real hbase
  unfold answer at hr
  cases hf : find (fits k i t a) L with
  | none =>
    rw [hf] at hr
    cases hr
    refine (Answer_none L hg k i t s a o hk hf ok po w hL).mono ?_
    rintro e w' ⟨rfl, hb⟩
    exact ⟨rfl, h.below hb, Nx.of_below hbase hb⟩
  | some j =>
    rw [hf] at hr
    obtain ⟨x, hx, _⟩ := find_some hf
    have e1 : L.getD j lt0 = x := by simp [List.getD_eq_getElem?_getD, hx]
    simp only [e1, Prod.mk.injEq] at hr
    obtain ⟨hr1, hr2, hr3⟩ := hr
    rw [← hr1, ← hr2, ← hr3]
    refine (Answer_some L hg k i t s a o hk j hf x hx ok po w hok hL).mono ?_
    rintro e w' ⟨rfl, h1, h2⟩
    exact ⟨rfl, hnext _ _ h1 h2⟩
theorem rAnswer (h : Both base w po pw L' L) (hbase : base ≤ w.heap.size) (hg : Good L) (k i t : Int) (s : ByteArray) (a : Int) (o : Bool) (L1 : List Lt) (x1 : Lt) (b1 : Bool) (hr : answer L k i t a = (L1, x1, b1)) :
    Calls Try.prog 30 #[.pointer (some ⟨pw, 0, none⟩), .agg #[.int .i64 k, .int .i64 i, .int .i64 t, .string s, .int .i64 a, .bool o]] w fun e w' => e = .returned (.tuple #[.agg #[.int .i64 x1.to, .int .i64 x1.kind, .int .i64 x1.inst, .int .i64 x1.turn, .string x1.name, .int .i64 x1.att, .bool x1.ok], .bool b1]) ∧ Both base w' po pw L' L1 ∧ Nx [72, 75] base w w' := by
  obtain ⟨ok, hok, hL, hnext⟩ := h.ref hbase
  refine (rAnswer_calls L hg k i t s a o L1 x1 b1 hr ok pw w hok hL).mono ?_
  rintro e w' ⟨rfl, h1, h2⟩
  exact ⟨rfl, hnext _ _ h1 h2⟩
theorem oForget (h : Both base w po pw L L') (hbase : base ≤ w.heap.size) (hg : Good L) (n : Int) (L1 : List Lt) (E : Int) (hE : forget L n = (L1, E)) :
    Calls Try.prog 26 #[.pointer (some ⟨po, 0, none⟩), .int .i64 n] w fun e w' => e = .returned (.int .i64 E) ∧ Both base w' po pw L1 L' ∧ Nx [74, 59] base w w' := by
  obtain ⟨ok, hok, hL, hnext⟩ := h.real hbase
  refine (Forget_calls L (by have := hg.len; omega) n ok po w hL).mono ?_
  rintro e w' ⟨rfl, h1, h2⟩
  rw [hE] at h1 ⊢
  exact ⟨rfl, hnext _ _ h1 h2⟩
theorem rForget (h : Both base w po pw L' L) (hbase : base ≤ w.heap.size) (hg : Good L) (n : Int) (L1 : List Lt) (E : Int) (hE : forget L n = (L1, E)) :
    Calls Try.prog 31 #[.pointer (some ⟨pw, 0, none⟩), .int .i64 n] w fun e w' => e = .returned (.int .i64 E) ∧ Both base w' po pw L' L1 ∧ Nx [72, 75] base w w' := by
  obtain ⟨ok, hok, hL, hnext⟩ := h.ref hbase
  refine (rForget_calls L (by have := hg.len; omega) n ok pw w hok hL).mono ?_
  rintro e w' ⟨rfl, h1, h2⟩
  rw [hE] at h1 ⊢
  exact ⟨rfl, hnext _ _ h1 h2⟩
theorem oAll (h : Both base w po pw L L') (hbase : base ≤ w.heap.size) (hg : Good L) :
    Calls Try.prog 27 #[.pointer (some ⟨po, 0, none⟩)] w fun e w' => ∃ A c, e = .returned (.slice A L.length c) ∧ Kd.C kLt w' A L.length L ∧ Below w.heap.size w w' := by
  obtain ⟨ok, hok, hL, hnext⟩ := h.real hbase
  refine (All_calls L (by have := hg.len; omega) ok po w hL).mono ?_
  rintro e w' ⟨v, rfl, hR, hb⟩
  obtain ⟨A, c, rfl, _, hC⟩ := Kd.R_reads hR
  exact ⟨A, c, rfl, hC, hb⟩
theorem aLetters (hg : Good L) (A : Option Addr) (cp : Nat) (hC : Kd.C kLt w A L.length L) :
    Calls Try.prog 33 #[.slice A L.length cp] w fun e w' => ∃ A c, e = .returned (.slice A L.length c) ∧ Kd.C kLt w' A L.length L ∧ Below w.heap.size w w' := by
  refine (Letters_calls L (by have := hg.len; omega) A cp w hC).mono ?_
  rintro e w' ⟨v, rfl, hR, hb⟩
  obtain ⟨A, c, rfl, _, hC⟩ := Kd.R_reads hR
  exact ⟨A, c, rfl, hC, hb⟩
end
theorem o_at (t e : Nat) (ok : Nat → Prop) (w : World) (p : Nat) (hp : ok p) (hb : w.heap[p]? = some (.cells #[.slice none 0 0] t (0, 0))) : IsO t e ok w p [] := ⟨_, hp, hb, Kd.R_nil _ _ _ _ _⟩
theorem both_new {base po pw : Nat} {w : World} (h1 : base ≤ po) (h2 : base ≤ pw) (hne : po ≠ pw) (ho : w.heap[po]? = some (.cells #[.slice none 0 0] 74 (0, 0))) (hw : w.heap[pw]? = some (.cells #[.slice none 0 0] 72 (0, 0))) : Both base w po pw [] [] :=
  ⟨fun k => k ≠ pw, o_at _ _ _ _ _ ⟨h1, hne⟩ ho, o_at _ _ _ _ _ ⟨h2, fun h => h rfl⟩ hw⟩
end Go.Proofs.Ytdglbiafpofeeaa.Obx
