/- Timers and the document's timers beside each other: each call in one form. -/
import Derived.Test.YtdfghndcengkaaaTmRef3
namespace Go.Proofs.Ytdfghndcengkaaa.Tmr
open Go.RowKit Go.Proofs.YtdfghndcengkaaaW.PrintWords Go.Proofs.YtdfghndcengkaaaW.PrintLast Go.Proofs.YtdfghndcengkaaaW.PrintMore Go.Proofs.Ytdfghndcengkaaa.PTimersPlay
open Amap Frm
set_option linter.unusedVariables false
set_option linter.unusedSimpArgs false
def Both (base : Nat) (w : World) (pd pr : Nat) (T R : Tms) : Prop := ∃ ok : Nat → Prop, IsT (fun k => base ≤ k ∧ ok k) w pd T ∧ IsR (fun k => base ≤ k ∧ ¬ ok k) w pr R
structure Nx (base : Nat) (w w' : World) : Prop where
  below : Below base w w'
  fr : Fr [33, 30] true 0 w w'
section
variable {base pd pr n : Nat} {w w1 w2 : World} {T T' R R' : Tms}
theorem Both.below (h : Both base w pd pr T R) (hb : Below w.heap.size w w1) : Both base w1 pd pr T R := by
  obtain ⟨ok, h1, h2⟩ := h
  exact ⟨ok, h1.below hb, h2.below hb⟩
theorem Nx.of_below (hbase : base ≤ w.heap.size) (hb : Below w.heap.size w w1) : Nx base w w1 := ⟨hb.mono hbase, Fr.of_below (Nat.zero_le _) hb _ _⟩
theorem Nx.refl (base : Nat) (w : World) : Nx base w w := ⟨Below.refl _ _, Fr.refl _ _ _ _⟩
theorem Nx.size (h : Nx base w w1) : w.heap.size ≤ w1.heap.size := h.below.size
theorem Nx.trans (h : Nx base w w1) (k : Nx base w1 w2) : Nx base w w2 := ⟨h.below.trans k.below, h.fr.trans k.fr⟩
theorem Nx.drew (h : Nx base w w1) : Nx base w w1.drew := ⟨h.below.drew, h.fr.drew⟩
theorem Nx.blk (h : Nx base w w1) {g t : Nat} {cs : Array Value} (hg : w.heap[g]? = some (.cells cs t (0, 0))) (ht : t ∉ [33, 30]) : w1.heap[g]? = some (.cells cs t (0, 0)) := h.fr.same g _ hg ht
theorem Nx.CS {b : Nat} {ok : Nat → Prop} {v : Value} {x : List ByteArray} (h : Nx base w w1) (hR : Kd.R Kd.string 9 w b ok v x) : Kd.R Kd.string 9 w1 b ok v x := R_fr hR h.fr (by simp [Kd.string, Kd.scalar])
theorem Both.tm (h : Both base w pd pr T R) (hbase : base ≤ w.heap.size) : ∃ ok : Nat → Prop, (∀ k, w.heap.size ≤ k → ok k) ∧ IsT ok w pd T ∧ (∀ w', Fz ok w w' → Nx base w w') ∧ ∀ w' T', IsT ok w' pd T' → Fz ok w w' → Both base w' pd pr T' R := by
  obtain ⟨ok, h1, h2⟩ := h
  have hup : ∀ k, ((base ≤ k ∧ ok k) ∨ w.heap.size ≤ k) → up base k := fun k hk => by
    rcases hk with hk | hk
    · exact hk.1
    · exact Nat.le_trans hbase hk
  refine ⟨fun k => (base ≤ k ∧ ok k) ∨ w.heap.size ≤ k, fun k hk => .inr hk, h1.refoot (fun k hk _ => .inl hk), fun w' hf => ⟨(hf.mono hup).up hbase, hf.fr⟩, fun w' T' h3 hf => ⟨fun k => (base ≤ k ∧ ok k) ∨ w.heap.size ≤ k, h3.refoot (fun k hk _ => ⟨hup k hk, hk⟩), ?_⟩⟩
  have h4 : ∀ k, (base ≤ k ∧ ¬ ok k) → k < w.heap.size → ¬ ((base ≤ k ∧ ok k) ∨ w.heap.size ≤ k) := fun k hk hl e => by
    rcases e with e | e
    · exact hk.2 e.2
    · omega
  have h5 := h2.refoot (ok' := fun k => (base ≤ k ∧ ¬ ((base ≤ k ∧ ok k) ∨ w.heap.size ≤ k)) ∧ k < w.heap.size) (fun k hk hl => ⟨⟨hk.1, h4 k hk hl⟩, hl⟩)
  exact (h5.move (fun k hk hl => hf.kp.same k hl hk.1.2)).refoot (fun k hk _ => hk.1)
theorem Both.ref (h : Both base w pd pr T R) (hbase : base ≤ w.heap.size) : ∃ ok : Nat → Prop, (∀ k, w.heap.size ≤ k → ok k) ∧ IsR ok w pr R ∧ (∀ w', Fz ok w w' → Nx base w w') ∧ ∀ w' R', IsR ok w' pr R' → Fz ok w w' → Both base w' pd pr T R' := by
  obtain ⟨ok, h1, h2⟩ := h
  have hup : ∀ k, ((base ≤ k ∧ ¬ ok k) ∨ w.heap.size ≤ k) → up base k := fun k hk => by
    rcases hk with hk | hk
    · exact hk.1
    · exact Nat.le_trans hbase hk
  refine ⟨fun k => (base ≤ k ∧ ¬ ok k) ∨ w.heap.size ≤ k, fun k hk => .inr hk, h2.refoot (fun k hk _ => .inl hk), fun w' hf => ⟨(hf.mono hup).up hbase, hf.fr⟩, fun w' R' h3 hf => ⟨fun k => ok k ∧ k < w.heap.size, ?_, h3.refoot (fun k hk _ => ⟨hup k hk, ?_⟩)⟩⟩
  · have h5 := h1.refoot (ok' := fun k => (base ≤ k ∧ ok k) ∧ k < w.heap.size) (fun k hk hl => ⟨hk, hl⟩)
    exact (h5.move (fun k hk hl => hf.kp.same k hl (fun e => by
      rcases e with e | e
      · exact e.2 hk.1.2
      · omega))).refoot (fun k hk _ => ⟨hk.1.1, hk.1.2, hk.2⟩)
  · rintro ⟨h7, h8⟩
    rcases hk with hk | hk
    · exact hk.2 h7
    · omega
theorem both_new (h1 : w.heap[pd]? = some (.cells #[.map none] 33 (0, 0))) (h2 : w.heap[pr]? = some (.cells #[.slice none 0 0] 30 (0, 0))) (b1 : base ≤ pd) (b2 : base ≤ pr) : Both base w pd pr [] [] := by
  have hne : pd ≠ pr := fun e => by
    rw [e, h2] at h1
    cases h1
  exact ⟨fun k => k ≠ pr, ⟨none, ⟨b1, hne⟩, h1, by simp, by simp, by simp⟩, ⟨.slice none 0 0, ⟨b2, by simp⟩, h2, Kd.R_nil _ _ _ _ _⟩⟩
theorem Both.rcell (h : Both base w pd pr T R) : ∃ A c, w.cell? ⟨pr, 0, none⟩ = some (.slice A R.length c) := by
  obtain ⟨ok, _, v, h2⟩ := h
  obtain ⟨A, c, rfl, _⟩ := h2.form
  exact ⟨A, c, h2.cell⟩
theorem Both.rfirst {q : Tm} {m : Tms} (h : Both base w pd pr T (q :: m)) : ∃ g c, w.cell? ⟨pr, 0, none⟩ = some (.slice (some ⟨g, 0, none⟩) (m.length + 1) c) ∧ w.cell? ⟨g, 1, none⟩ = some (.int .i64 q.2) := by
  obtain ⟨ok, _, v, h2⟩ := h
  obtain ⟨A, c, rfl, _⟩ := h2.form
  obtain ⟨g, rfl, _, y1⟩ := h2.elem (i := 0) (q := q) rfl
  exact ⟨g, c, h2.cell, by simpa using y1⟩
/-! ### the calls -/
theorem bSet (h : Both base w pd pr T R) (hbase : base ≤ w.heap.size) (k : ByteArray) (d : Int) (hk : domS k) (hd : domI d) :
    Calls Try.prog 7 #[.pointer (some ⟨pd, 0, none⟩), .string k, .int .i64 d] w fun e w' => e = .returned (.tuple #[]) ∧ Both base w' pd pr (tset T k d) R ∧ Nx base w w' := by
  obtain ⟨ok, hok, hL, hnx, hnext⟩ := h.tm hbase
  refine (Set_calls T ok pd w hL hok k d hk hd).mono ?_
  rintro e w' ⟨rfl, h1, h2⟩
  exact ⟨rfl, hnext _ _ h1 h2, hnx _ h2⟩
theorem rSet (h : Both base w pd pr T' R) (hbase : base ≤ w.heap.size) (hI : Inv n T R) (hn : n ≤ 300) (k : ByteArray) (d : Int) :
    Calls Try.prog 8 #[.pointer (some ⟨pr, 0, none⟩), .string k, .int .i64 d] w fun e w' => e = .returned (.tuple #[]) ∧ Both base w' pd pr T' (rset R k d) ∧ Nx base w w' := by
  obtain ⟨ok, hok, hL, hnx, hnext⟩ := h.ref hbase
  refine (RSet_calls R (by have := hI.len; omega) (nd_perm hI.perm hI.nd) ok pr w hok hL k d).mono ?_
  rintro e w' ⟨rfl, h1, h2⟩
  exact ⟨rfl, hnext _ _ h1 h2, hnx _ h2⟩
theorem bStop (h : Both base w pd pr T R) (hbase : base ≤ w.heap.size) (k : ByteArray) (hk : domS k) (E : Bool) (hE : there T k = E) :
    Calls Try.prog 9 #[.pointer (some ⟨pd, 0, none⟩), .string k] w fun e w' => e = .returned (.bool E) ∧ Both base w' pd pr (mdel T k) R ∧ Nx base w w' := by
  subst hE
  obtain ⟨ok, hok, hL, hnx, hnext⟩ := h.tm hbase
  refine (Stop_calls T ok pd w hL k hk).mono ?_
  rintro e w' ⟨rfl, h1, h2⟩
  exact ⟨rfl, hnext _ _ h1 h2, hnx _ h2⟩
theorem rStop (h : Both base w pd pr T' R) (hbase : base ≤ w.heap.size) (hI : Inv n T R) (hn : n ≤ 300) (k : ByteArray) (E : Bool) (hE : there T k = E) :
    Calls Try.prog 10 #[.pointer (some ⟨pr, 0, none⟩), .string k] w fun e w' => e = .returned (.bool E) ∧ Both base w' pd pr T' (mdel R k) ∧ Nx base w w' := by
  subst hE
  obtain ⟨ok, hok, hL, hnx, hnext⟩ := h.ref hbase
  have e : there R k = there T k := by unfold there; rw [hI.look]
  rw [← e]
  refine (RStop_calls R (by have := hI.len; omega) (nd_perm hI.perm hI.nd) ok pr w hok hL k).mono ?_
  rintro e w' ⟨rfl, h1, h2⟩
  exact ⟨rfl, hnext _ _ h1 h2, hnx _ h2⟩
theorem Inv.tlen (hI : Inv n T R) : T.length = R.length := hI.perm.length_eq
theorem bTake (h : Both base w pd pr T R) (hbase : base ≤ w.heap.size) (hI : Inv n T R') (hn : n ≤ 200) (now : Int) (G : List ByteArray) (hG : rgone R' now = G) :
    Calls Try.prog 12 #[.pointer (some ⟨pd, 0, none⟩), .int .i64 now] w fun e w' => ∃ A c, e = .returned (.slice A G.length c) ∧ Kd.R Kd.string 9 w' 0 (fun _ => True) (.slice A G.length c) G ∧ Both base w' pd pr (ttake T now) R ∧ Nx base w w' := by
  subst hG
  obtain ⟨ok, hok, hL, hnx, hnext⟩ := h.tm hbase
  refine (Take_calls T ok pd w now hL (by have := hI.len; have := hI.tlen; omega)).mono ?_
  rintro e w' ⟨D, A, cap, h1, h2, rfl, h3, h4, h5⟩
  have e1 := hI.gone now h1 h2
  have e2 : D.length = (rgone R' now).length := by rw [← e1, List.length_map]
  rw [e1, e2] at h3
  rw [e2]
  exact ⟨A, cap, rfl, Kd.R_mono (Kd.R_lower h3 (Nat.zero_le _)) (fun _ _ => trivial), hnext _ _ h4 h5, hnx _ h5⟩
theorem rTake (h : Both base w pd pr T' R) (hbase : base ≤ w.heap.size) (hI : Inv n T R) (hn : n ≤ 300) (now : Int) (G : List ByteArray) (hG : rgone R now = G) :
    Calls Try.prog 13 #[.pointer (some ⟨pr, 0, none⟩), .int .i64 now] w fun e w' => ∃ A c, e = .returned (.slice A G.length c) ∧ Kd.R Kd.string 9 w' 0 (fun _ => True) (.slice A G.length c) G ∧ Both base w' pd pr T' (rtake R now) ∧ Nx base w w' := by
  subst hG
  obtain ⟨ok, hok, hL, hnx, hnext⟩ := h.ref hbase
  refine (RTake_calls R (by have := hI.len; omega) (nd_perm hI.perm hI.nd) ok pr w hok hL now).mono ?_
  rintro e w' ⟨A, cap, rfl, h3, h4, h5⟩
  exact ⟨A, cap, rfl, Kd.R_mono (Kd.R_lower h3 (Nat.zero_le _)) (fun _ _ => trivial), hnext _ _ h4 h5, hnx _ h5⟩
theorem bDue (h : Both base w pd pr T R) (hbase : base ≤ w.heap.size) (k : ByteArray) (hk : domS k) (D : Int) (E : Bool) (hD : due T k = D) (hE : there T k = E) :
    Calls Try.prog 14 #[.pointer (some ⟨pd, 0, none⟩), .string k] w fun e w' => e = .returned (.tuple #[.int .i64 D, .bool E]) ∧ w = w' := by
  subst hD hE
  obtain ⟨ok, hok, hL, hnx, hnext⟩ := h.tm hbase
  exact Due_calls T ok pd w hL k hk
theorem rDue (h : Both base w pd pr T' R) (hbase : base ≤ w.heap.size) (hI : Inv n T R) (hn : n ≤ 300) (k : ByteArray) (D : Int) (E : Bool) (hD : due T k = D) (hE : there T k = E) :
    Calls Try.prog 15 #[.pointer (some ⟨pr, 0, none⟩), .string k] w fun e w' => e = .returned (.tuple #[.int .i64 D, .bool E]) ∧ w = w' := by
  subst hD hE
  obtain ⟨ok, hok, hL, hnx, hnext⟩ := h.ref hbase
  have e1 : there R k = there T k := by unfold there; rw [hI.look]
  have e2 : due R k = due T k := by unfold due; rw [hI.look]
  rw [← e1, ← e2]
  exact RDue_calls R (by have := hI.len; omega) (nd_perm hI.perm hI.nd) ok pr w hok hL k
theorem bLen (h : Both base w pd pr T R) (hbase : base ≤ w.heap.size) (hI : Inv n T R') : Calls Try.prog 17 #[.pointer (some ⟨pd, 0, none⟩)] w fun e w' => e = .returned (.int .i64 R'.length) ∧ w' = w := by
  obtain ⟨ok, hok, hL, hnx, hnext⟩ := h.tm hbase
  rw [← hI.tlen]
  exact (Len_calls T ok pd w hL).mono (fun _ _ h => ⟨h.1, h.2.symm⟩)
theorem bNext0 (h : Both base w pd pr T R) (hbase : base ≤ w.heap.size) (hI : Inv n T R') (hn : n ≤ 200) (hR : R' = []) : Calls Try.prog 16 #[.pointer (some ⟨pd, 0, none⟩)] w fun e w' => e = .returned (.tuple #[.int .i64 0, .bool false]) ∧ Below w.heap.size w w' := by
  obtain ⟨ok, hok, hL, hnx, hnext⟩ := h.tm hbase
  have hT : T = [] := List.eq_nil_of_length_eq_zero (by rw [hI.tlen, hR]; rfl)
  refine (Next_calls T ok pd w hL (by rw [hT]; simp)).mono ?_
  rintro e w' ⟨h1, h2⟩
  rcases h1 with ⟨_, rfl⟩ | ⟨m, ⟨q, hq, _⟩, _, _⟩
  · exact ⟨rfl, h2⟩
  · rw [hT] at hq; cases hq
theorem bNext1 (h : Both base w pd pr T R) (hbase : base ≤ w.heap.size) (hI : Inv n T R') (hn : n ≤ 200) {q : Tm} {m : Tms} (hR : R' = q :: m) : Calls Try.prog 16 #[.pointer (some ⟨pd, 0, none⟩)] w fun e w' => e = .returned (.tuple #[.int .i64 q.2, .bool true]) ∧ Below w.heap.size w w' := by
  obtain ⟨ok, hok, hL, hnx, hnext⟩ := h.tm hbase
  refine (Next_calls T ok pd w hL (by have := hI.len; have := hI.tlen; omega)).mono ?_
  rintro e w' ⟨h1, h2⟩
  obtain ⟨⟨x, hx, hx2⟩, hle⟩ := hI.first hR
  rcases h1 with ⟨hT, _⟩ | ⟨y, ⟨z, hz, hz2⟩, hy, rfl⟩
  · rw [hT] at hx; cases hx
  · have h3 := hy x hx
    have h4 := hle z hz
    have : y = q.2 := by omega
    rw [this]
    exact ⟨rfl, h2⟩
def doT (T : Tms) (kd : Int) (k : ByteArray) (d : Int) : Tms := if kd = 1 then tset T k d else if kd = 2 then mdel T k else if kd = 3 then ttake T d else T
def doR (R : Tms) (kd : Int) (k : ByteArray) (d : Int) : Tms := if kd = 1 then rset R k d else if kd = 2 then mdel R k else if kd = 3 then rtake R d else R
theorem Inv.op (h : Inv n T R) (kd : Int) (k : ByteArray) (d : Int) : Inv (n + 1) (doT T kd k d) (doR R kd k d) := by
  unfold doT doR
  by_cases h1 : kd = 1
  · rw [if_pos h1, if_pos h1]; exact h.set k d
  rw [if_neg h1, if_neg h1]
  by_cases h2 : kd = 2
  · rw [if_pos h2, if_pos h2]; exact (h.stop k).le (Nat.le_succ _)
  rw [if_neg h2, if_neg h2]
  by_cases h3 : kd = 3
  · rw [if_pos h3, if_pos h3]; exact (h.take d).le (Nat.le_succ _)
  rw [if_neg h3, if_neg h3]
  exact h.le (Nat.le_succ _)
end
end Go.Proofs.Ytdfghndcengkaaa.Tmr
