/- A disk and the document's disk beside each other: each call in one form. -/
import Derived.Test.YtnplnelhodnonaaDkRApp
import Derived.Test.YtnplnelhodnonaaDkRCrash
import Derived.Test.YtnplnelhodnonaaDskAw
namespace Go.Proofs.Ytnplnelhodnonaa.Dsk
open Go.RowKit Go.Proofs.YtnplnelhodnonaaW.PrintWords Go.Proofs.YtnplnelhodnonaaW.PrintLast Go.Proofs.YtnplnelhodnonaaW.PrintMore Go.Proofs.Ytnplnelhodnonaa.PDiskNil
open Amap Frm
set_option linter.unusedVariables false
set_option linter.unusedSimpArgs false
def Both (base : Nat) (w : World) (pd pr : Nat) (S : DSt) (R : RSt) : Prop := ∃ ok : Nat → Prop, IsD (fun k => base ≤ k ∧ ok k) w pd S ∧ IsR (fun k => base ≤ k ∧ ¬ ok k) w pr R
structure Nx (base : Nat) (w w' : World) : Prop where
  below : Below base w w'
  fr : Fr [79, 91, 5, 71, 81] true 0 w w'
section
variable {base pd pr n : Nat} {w w1 : World} {S S' : DSt} {R R' : RSt}
theorem Both.below (h : Both base w pd pr S R) (hb : Below w.heap.size w w1) : Both base w1 pd pr S R := by
  obtain ⟨ok, h1, h2⟩ := h
  exact ⟨ok, h1.below hb, h2.below hb⟩
theorem Nx.of_below (hbase : base ≤ w.heap.size) (hb : Below w.heap.size w w1) : Nx base w w1 := ⟨hb.mono hbase, Fr.of_below (Nat.zero_le _) hb _ _⟩
theorem Nx.refl (base : Nat) (w : World) : Nx base w w := ⟨Below.refl _ _, Fr.refl _ _ _ _⟩
theorem Nx.size (h : Nx base w w1) : w.heap.size ≤ w1.heap.size := h.below.size
theorem Nx.trans {w2 : World} (h : Nx base w w1) (k : Nx base w1 w2) : Nx base w w2 := ⟨h.below.trans k.below, h.fr.trans k.fr⟩
theorem Nx.drew (h : Nx base w w1) : Nx base w w1.drew := ⟨h.below.drew, h.fr.drew⟩
theorem Nx.blk (h : Nx base w w1) {g t : Nat} {cs : Array Value} (hg : w.heap[g]? = some (.cells cs t (0, 0))) (ht : t ∉ [79, 91, 5, 71, 81]) : w1.heap[g]? = some (.cells cs t (0, 0)) := h.fr.same g _ hg ht
theorem Nx.C3 {b : Nat} {ok : Nat → Prop} {v : Value} {x : List Int} (h : Nx base w w1) (hR : Kd.R (Kd.int .i64) 3 w b ok v x) : Kd.R (Kd.int .i64) 3 w1 b ok v x := R_fr hR h.fr (by simp [Kd.int, Kd.scalar])
theorem Both.disk (h : Both base w pd pr S R) (hbase : base ≤ w.heap.size) : ∃ ok : Nat → Prop, (∀ k, w.heap.size ≤ k → ok k) ∧ IsD ok w pd S ∧ (∀ w', Fz ok w w' → Nx base w w') ∧ ∀ w' S', IsD ok w' pd S' → Fz ok w w' → Both base w' pd pr S' R := by
  obtain ⟨ok, h1, h2⟩ := h
  have hup : ∀ k, ((base ≤ k ∧ ok k) ∨ w.heap.size ≤ k) → up base k := fun k hk => by
    rcases hk with hk | hk
    · exact hk.1
    · exact Nat.le_trans hbase hk
  refine ⟨fun k => (base ≤ k ∧ ok k) ∨ w.heap.size ≤ k, fun k hk => .inr hk, h1.refoot (fun k hk _ => .inl hk), fun w' hf => ⟨(hf.mono hup).up hbase, hf.fr.mono (by simp) (fun h => h)⟩, fun w' S' h3 hf => ⟨fun k => (base ≤ k ∧ ok k) ∨ w.heap.size ≤ k, h3.refoot (fun k hk _ => ⟨hup k hk, hk⟩), ?_⟩⟩
  have h4 : ∀ k, (base ≤ k ∧ ¬ ok k) → k < w.heap.size → ¬ ((base ≤ k ∧ ok k) ∨ w.heap.size ≤ k) := fun k hk hl e => by
    rcases e with e | e
    · exact hk.2 e.2
    · omega
  have h5 := h2.refoot (ok' := fun k => (base ≤ k ∧ ¬ ((base ≤ k ∧ ok k) ∨ w.heap.size ≤ k)) ∧ k < w.heap.size) (fun k hk hl => ⟨⟨hk.1, h4 k hk hl⟩, hl⟩)
  exact (h5.move (fun k hk hl => hf.kp.same k hl hk.1.2)).refoot (fun k hk _ => hk.1)
theorem Both.ref (h : Both base w pd pr S R) (hbase : base ≤ w.heap.size) : ∃ ok : Nat → Prop, (∀ k, w.heap.size ≤ k → ok k) ∧ IsR ok w pr R ∧ (∀ w', Fy ok w w' → Nx base w w') ∧ ∀ w' R', IsR ok w' pr R' → Fy ok w w' → Both base w' pd pr S R' := by
  obtain ⟨ok, h1, h2⟩ := h
  have hup : ∀ k, ((base ≤ k ∧ ¬ ok k) ∨ w.heap.size ≤ k) → up base k := fun k hk => by
    rcases hk with hk | hk
    · exact hk.1
    · exact Nat.le_trans hbase hk
  refine ⟨fun k => (base ≤ k ∧ ¬ ok k) ∨ w.heap.size ≤ k, fun k hk => .inr hk, h2.refoot (fun k hk _ => .inl hk), fun w' hf => ⟨?_, hf.fr.mono (by simp) (by simp)⟩, fun w' R' h3 hf => ⟨fun k => ok k ∧ k < w.heap.size, ?_, h3.refoot (fun k hk _ => ⟨hup k hk, ?_⟩)⟩⟩
  · exact (show Kp (up base) w w' from ⟨hf.kp.below, fun k hk hn => hf.kp.same k hk (fun e => hn (hup k e))⟩).up hbase
  · have h5 := h1.refoot (ok' := fun k => (base ≤ k ∧ ok k) ∧ k < w.heap.size) (fun k hk hl => ⟨hk, hl⟩)
    exact (h5.move (fun k hk hl => hf.kp.same k hl (fun e => by
      rcases e with e | e
      · exact e.2 hk.1.2
      · omega))).refoot (fun k hk _ => ⟨hk.1.1, hk.1.2, hk.2⟩)
  · rintro ⟨h7, h8⟩
    rcases hk with hk | hk
    · exact hk.2 h7
    · omega
/-- .. and where a cell of the document's disk lies. -/
theorem Both.rcells (h : Both base w pd pr S R) : ∃ v, w.cell? ⟨pr, 0, none⟩ = some v ∧ (∃ A c, v = .slice A R.L.length c) ∧ w.cell? ⟨pr, 1, none⟩ = some (.int .i64 R.room) ∧ w.cell? ⟨pr, 2, none⟩ = some (.int .i64 R.fuse) ∧ w.cell? ⟨pr, 3, none⟩ = some (.bool R.dead) := by
  obtain ⟨ok, _, v, h2⟩ := h
  obtain ⟨c0, c1, c2, c3⟩ := h2.cells
  obtain ⟨A, c, hv, _⟩ := h2.form
  exact ⟨v, c0, ⟨A, c, hv⟩, c1, c2, c3⟩
theorem Both.relem (h : Both base w pd pr S R) {i : Nat} {q : Int × Sg} (hq : R.L[i]? = some q) : ∃ g cap A2 c2, w.cell? ⟨pr, 0, none⟩ = some (.slice (some ⟨g, 0, none⟩) R.L.length cap) ∧ w.cell? ⟨g, i * 3, none⟩ = some (.int .i64 q.1) ∧ w.cell? ⟨g, i * 3 + 1, none⟩ = some (.slice A2 q.2.1.length c2) ∧ w.cell? ⟨g, i * 3 + 2, none⟩ = some (.int .i64 (q.2.2 : Nat)) ∧ Kd.C (Kd.int .u8) w A2 q.2.1.length q.2.1 := by
  obtain ⟨ok, _, v, h2⟩ := h
  obtain ⟨A, cap, rfl, _⟩ := h2.form
  obtain ⟨g, A2, c2, rfl, x0, x1, x2, _, _, hr⟩ := h2.elem hq
  exact ⟨g, cap, A2, c2, h2.cells.1, x0, x1, x2, (Kd.R_reads' hr).2.2⟩
/-! ### the calls -/
theorem Inv.u (hI : Inv n S R) (hn : n ≤ 400) : Dsk.used S.L ≤ 50000000 ∧ Dsk.used R.L ≤ 50000000 ∧ R.L.length ≤ 100000 ∧ S.L.length ≤ 100000 := by
  have h1 := hI.used
  have h2 := hI.us
  have h3 := hI.len
  have h4 := hI.perm.length_eq
  have : n * 50000 ≤ 400 * 50000 := Nat.mul_le_mul_right _ hn
  omega
theorem bAppend (h : Both base w pd pr S R) (hbase : base ≤ w.heap.size) (hI : Inv n S R) (hn : n ≤ 400) (a : Int) (hk : domI a) (A : Option Addr) (cp : Nat) (x : List Int) (hC : ∀ w1, Nx base w w1 → Kd.C (Kd.int .u8) w1 A x.length x) (hx : x.length ≤ 50000) (E : Int) (hE : (dappend S a x).2 = E) :
    Calls Try.prog 23 #[.pointer (some ⟨pd, 0, none⟩), .int .i64 a, .slice A x.length cp] w fun e w' => e = .returned (.int .i64 E) ∧ Both base w' pd pr (dappend S a x).1 R ∧ Nx base w w' := by
  subst hE
  obtain ⟨ok, hok, hL, hnx, hnext⟩ := h.disk hbase
  obtain ⟨u1, u2, u3, u4⟩ := hI.u hn
  refine (Append_calls S a x A cp ok pd w hok hL hk u1 (by omega) (hC w (Nx.refl _ _)) (fun w1 h1 => hC w1 (hnx w1 h1))).mono ?_
  rintro e w' ⟨rfl, h1, h2⟩
  exact ⟨rfl, hnext _ _ h1 h2, hnx _ h2⟩
theorem rAppend (h : Both base w pd pr S' R) (hbase : base ≤ w.heap.size) (hI : Inv n S R) (hn : n ≤ 400) (a : Int) (hk : domI a) (A : Option Addr) (cp : Nat) (x : List Int) (hC : ∀ w1, Nx base w w1 → Kd.C (Kd.int .u8) w1 A x.length x) (hx : x.length ≤ 50000) (E : Int) (hE : (dappend S a x).2 = E) :
    Calls Try.prog 41 #[.pointer (some ⟨pr, 0, none⟩), .int .i64 a, .slice A x.length cp] w fun e w' => e = .returned (.int .i64 E) ∧ Both base w' pd pr S' (rappend R a x).1 ∧ Nx base w w' := by
  subst hE
  obtain ⟨ok, hok, hL, hnx, hnext⟩ := h.ref hbase
  obtain ⟨u1, u2, u3, u4⟩ := hI.u hn
  refine (RAppend_calls R a x A cp u3 u2 hI.up hI.fuse hI.room0 hI.room1 ok pr w hok hL (by omega) (fun w1 h1 => hC w1 (hnx w1 h1))).mono ?_
  rintro e w' ⟨rfl, h1, h2⟩
  have hka : a ≤ 9223372036854775807 := by
    unfold domI at hk
    simp [Lit.wf, IntKind.wrap, IntKind.signed, IntKind.bits] at hk
    omega
  rw [(hI.append a hka x hx).1]
  exact ⟨rfl, hnext _ _ h1 h2, hnx _ h2⟩
theorem bSync (h : Both base w pd pr S R) (hbase : base ≤ w.heap.size) (a : Int) (hk : domI a) (E : Int) (hE : (dsync S a).2 = E) :
    Calls Try.prog 24 #[.pointer (some ⟨pd, 0, none⟩), .int .i64 a] w fun e w' => e = .returned (.int .i64 E) ∧ Both base w' pd pr (dsync S a).1 R ∧ Nx base w w' := by
  subst hE
  obtain ⟨ok, hok, ⟨M, b, hL⟩, hnx, hnext⟩ := h.disk hbase
  refine (Sync_calls S M b a ok pd w hL hk).mono ?_
  rintro e w' ⟨rfl, h1, h2⟩
  exact ⟨rfl, hnext _ _ h1 h2, hnx _ h2⟩
theorem rSync (h : Both base w pd pr S' R) (hbase : base ≤ w.heap.size) (hI : Inv n S R) (hn : n ≤ 400) (a : Int) (E : Int) (hE : (dsync S a).2 = E) :
    Calls Try.prog 42 #[.pointer (some ⟨pr, 0, none⟩), .int .i64 a] w fun e w' => e = .returned (.int .i64 E) ∧ Both base w' pd pr S' (rsync R a).1 ∧ Nx base w w' := by
  subst hE
  obtain ⟨ok, hok, hL, hnx, hnext⟩ := h.ref hbase
  obtain ⟨u1, u2, u3, u4⟩ := hI.u hn
  refine (RSync_calls R a u3 (by omega) hI.up.nd hI.fuse ok pr w hok hL).mono ?_
  rintro e w' ⟨rfl, h1, h2⟩
  rw [(hI.sync a).1]
  exact ⟨rfl, hnext _ _ h1 h2, hnx _ h2⟩
theorem bDrop (h : Both base w pd pr S R) (hbase : base ≤ w.heap.size) (a : Int) (hk : domI a) (E : Int) (hE : (ddrop S a).2 = E) :
    Calls Try.prog 25 #[.pointer (some ⟨pd, 0, none⟩), .int .i64 a] w fun e w' => e = .returned (.int .i64 E) ∧ Both base w' pd pr (ddrop S a).1 R ∧ Nx base w w' := by
  subst hE
  obtain ⟨ok, hok, ⟨M, b, hL⟩, hnx, hnext⟩ := h.disk hbase
  refine (Drop_calls S M b a ok pd w hL hk).mono ?_
  rintro e w' ⟨rfl, h1, h2⟩
  exact ⟨rfl, hnext _ _ h1 h2, hnx _ h2⟩
theorem rDrop (h : Both base w pd pr S' R) (hbase : base ≤ w.heap.size) (hI : Inv n S R) (hn : n ≤ 400) (a : Int) (E : Int) (hE : (ddrop S a).2 = E) :
    Calls Try.prog 43 #[.pointer (some ⟨pr, 0, none⟩), .int .i64 a] w fun e w' => e = .returned (.int .i64 E) ∧ Both base w' pd pr S' (rdrop R a).1 ∧ Nx base w w' := by
  subst hE
  obtain ⟨ok, hok, hL, hnx, hnext⟩ := h.ref hbase
  obtain ⟨u1, u2, u3, u4⟩ := hI.u hn
  refine (RDrop_calls R a u3 (by omega) hI.up.nd hI.fuse ok pr w hok hL).mono ?_
  rintro e w' ⟨rfl, h1, h2⟩
  rw [(hI.drop a).1]
  exact ⟨rfl, hnext _ _ h1 h2, hnx _ h2⟩
theorem bRead (h : Both base w pd pr S R) (hbase : base ≤ w.heap.size) (hI : Inv n S R') (hn : n ≤ 400) (a : Int) (hk : domI a) (y : List Int) (E : Int) (hy : dread S a = y) (hE : dfind S a = E) :
    Calls Try.prog 17 #[.pointer (some ⟨pd, 0, none⟩), .int .i64 a] w fun e w' => ∃ A2 c2, e = .returned (.tuple #[.slice A2 y.length c2, .int .i64 E]) ∧ Kd.R (Kd.int .u8) 5 w' 0 (fun _ => True) (.slice A2 y.length c2) y ∧ Below w.heap.size w w' := by
  subst hE hy
  obtain ⟨ok, hok, ⟨M, b, hL⟩, hnx, hnext⟩ := h.disk hbase
  obtain ⟨u1, u2, u3, u4⟩ := hI.u hn
  exact Read_calls S M b a ok pd w hL hk (by omega)
theorem rRead (h : Both base w pd pr S' R) (hbase : base ≤ w.heap.size) (hI : Inv n S R) (hn : n ≤ 400) (a : Int) (y : List Int) (E : Int) (hy : dread S a = y) (hE : dfind S a = E) :
    Calls Try.prog 44 #[.pointer (some ⟨pr, 0, none⟩), .int .i64 a] w fun e w' => ∃ A2 c2, e = .returned (.tuple #[.slice A2 y.length c2, .int .i64 E]) ∧ Kd.R (Kd.int .u8) 5 w' 0 (fun _ => True) (.slice A2 y.length c2) y ∧ Below w.heap.size w w' := by
  subst hE hy
  obtain ⟨ok, hok, hL, hnx, hnext⟩ := h.ref hbase
  obtain ⟨u1, u2, u3, u4⟩ := hI.u hn
  have h1 := RRead_calls R a u3 (by omega) hI.up.nd ok pr w hok hL
  rw [hI.read, hI.find] at h1
  exact h1
theorem bFuse (h : Both base w pd pr S R) (hbase : base ≤ w.heap.size) (a : Int) :
    Calls Try.prog 21 #[.pointer (some ⟨pd, 0, none⟩), .int .i64 a] w fun e w' => e = .returned (.tuple #[]) ∧ Both base w' pd pr (setFuse S a) R ∧ Nx base w w' := by
  obtain ⟨ok, hok, ⟨M, b, hL⟩, hnx, hnext⟩ := h.disk hbase
  refine (SetFuse_calls S M b a ok pd w hL).mono ?_
  rintro e w' ⟨rfl, h1, h2⟩
  exact ⟨rfl, hnext _ _ ⟨_, _, h1⟩ h2, hnx _ h2⟩
theorem bRoom (h : Both base w pd pr S R) (hbase : base ≤ w.heap.size) (a : Int) :
    Calls Try.prog 22 #[.pointer (some ⟨pd, 0, none⟩), .int .i64 a] w fun e w' => e = .returned (.tuple #[]) ∧ Both base w' pd pr (setRoom S a) R ∧ Nx base w w' := by
  obtain ⟨ok, hok, ⟨M, b, hL⟩, hnx, hnext⟩ := h.disk hbase
  refine (SetRoom_calls S M b a ok pd w hL).mono ?_
  rintro e w' ⟨rfl, h1, h2⟩
  exact ⟨rfl, hnext _ _ ⟨_, _, h1⟩ h2, hnx _ h2⟩
/-- The document's fuse, room are stored. -/
theorem rFuse (h : Both base w pd pr S R) (hbase : base ≤ w.heap.size) (a : Int) : Both base (w.setCell ⟨pr, 2, none⟩ (.int .i64 (max a (-1)))) pd pr S (rsetFuse R a) ∧ Nx base w (w.setCell ⟨pr, 2, none⟩ (.int .i64 (max a (-1)))) ∧ w.frozen? ⟨pr, 2, none⟩ = false := by
  obtain ⟨ok, hok, ⟨v, hL⟩, hnx, hnext⟩ := h.ref hbase
  obtain ⟨h1, h2⟩ := hL.own (R' := rsetFuse R a) rfl 2 (.int .i64 (max a (-1))) rfl
  exact ⟨hnext _ _ ⟨_, h1⟩ h2, hnx _ h2, blk_frozen hL.blk 2⟩
theorem rRoom (h : Both base w pd pr S R) (hbase : base ≤ w.heap.size) (a : Int) : Both base (w.setCell ⟨pr, 1, none⟩ (.int .i64 (max a 0))) pd pr S (rsetRoom R a) ∧ Nx base w (w.setCell ⟨pr, 1, none⟩ (.int .i64 (max a 0))) ∧ w.frozen? ⟨pr, 1, none⟩ = false := by
  obtain ⟨ok, hok, ⟨v, hL⟩, hnx, hnext⟩ := h.ref hbase
  obtain ⟨h1, h2⟩ := hL.own (R' := rsetRoom R a) rfl 1 (.int .i64 (max a 0)) rfl
  exact ⟨hnext _ _ ⟨_, h1⟩ h2, hnx _ h2, blk_frozen hL.blk 1⟩
theorem bCrash (h : Both base w pd pr S R) (hbase : base ≤ w.heap.size) (hI : Inv n S R) (hn : n ≤ 400) (A : Option Addr) (cp : Nat) (keep : List Int) (hC : ∀ w1, Nx base w w1 → Kd.C (Kd.int .i64) w1 A keep.length keep) (hkl : keep.length ≤ 100) (hck : keep.length ≤ cp) :
    Calls Try.prog 19 #[.pointer (some ⟨pd, 0, none⟩), .slice A keep.length cp] w fun e w' => e = .returned (.tuple #[]) ∧ Both base w' pd pr (dcrash S keep) R ∧ Nx base w w' := by
  obtain ⟨ok, hok, ⟨M, b, hL⟩, hnx, hnext⟩ := h.disk hbase
  obtain ⟨u1, u2, u3, u4⟩ := hI.u hn
  refine (Crash_calls S M b keep A cp ok pd w hok hL u4 u1 (fun q hq => (hI.num2 q hq).2.2) (by omega) (fun w1 h1 => hC w1 (hnx w1 h1)) hck).mono ?_
  rintro e w' ⟨rfl, h1, h2⟩
  exact ⟨rfl, hnext _ _ h1 h2, hnx _ h2⟩
theorem rCrash (h : Both base w pd pr S' R) (hbase : base ≤ w.heap.size) (hI : Inv n S R) (hn : n ≤ 400) (A : Option Addr) (cp : Nat) (keep : List Int) (hC : Kd.C (Kd.int .i64) w A keep.length keep) (hkl : keep.length ≤ 100) (hck : keep.length ≤ cp) :
    Calls Try.prog 39 #[.pointer (some ⟨pr, 0, none⟩), .slice A keep.length cp] w fun e w' => e = .returned (.tuple #[]) ∧ Both base w' pd pr S' (rcrash R keep) ∧ Nx base w w' := by
  obtain ⟨ok, hok, hL, hnx, hnext⟩ := h.ref hbase
  obtain ⟨u1, u2, u3, u4⟩ := hI.u hn
  refine (RCrash_calls R keep A cp u3 u2 (fun q hq => (hI.num q hq).2.2) ok pr w hok hL (by omega) hC hck).mono ?_
  rintro e w' ⟨rfl, h1, h2⟩
  exact ⟨rfl, hnext _ _ h1 h2, hnx _ h2⟩
theorem bSpoil (h : Both base w pd pr S R) (hbase : base ≤ w.heap.size) (hI : Inv n S R') (hn : n ≤ 400) (a b y : Int) (hk : domI a) (E : Bool) (hE : (dspoil S a b (xorB y)).2 = E) :
    Calls Try.prog 26 #[.pointer (some ⟨pd, 0, none⟩), .int .i64 a, .int .i64 b, .int .u8 y] w fun e w' => e = .returned (.bool E) ∧ Both base w' pd pr (dspoil S a b (xorB y)).1 R ∧ Nx base w w' := by
  subst hE
  obtain ⟨ok, hok, ⟨M, b', hL⟩, hnx, hnext⟩ := h.disk hbase
  obtain ⟨u1, u2, u3, u4⟩ := hI.u hn
  refine (Spoil_calls S M b' a b y ok pd w hL hk u1).mono ?_
  rintro e w' ⟨rfl, h1, h2⟩
  exact ⟨rfl, hnext _ _ h1 h2, hnx _ h2⟩
theorem rSpoil (h : Both base w pd pr S' R) (hbase : base ≤ w.heap.size) (hI : Inv n S R) (hn : n ≤ 400) (a b y : Int) (E : Bool) (hE : (dspoil S a b (xorB y)).2 = E) :
    Calls Try.prog 45 #[.pointer (some ⟨pr, 0, none⟩), .int .i64 a, .int .i64 b, .int .u8 y] w fun e w' => e = .returned (.bool E) ∧ Both base w' pd pr S' (rspoil R a b (xorB y)).1 ∧ Nx base w w' := by
  subst hE
  obtain ⟨ok, hok, hL, hnx, hnext⟩ := h.ref hbase
  obtain ⟨u1, u2, u3, u4⟩ := hI.u hn
  refine (RSpoil_calls R a u3 (by omega) hI.up.nd hI.fuse ok pr w hok hL b y).mono ?_
  rintro e w' ⟨rfl, h1, h2⟩
  rw [(hI.spoil a b _).1]
  exact ⟨rfl, hnext _ _ h1 h2, hnx _ h2⟩
theorem bUsed (h : Both base w pd pr S R) (hbase : base ≤ w.heap.size) (hI : Inv n S R) (hn : n ≤ 400) (E : Nat) (hE : used R.L = E) : Calls Try.prog 27 #[.pointer (some ⟨pd, 0, none⟩)] w fun e w' => e = .returned (.int .i64 (E : Int)) ∧ Below w.heap.size w w' := by
  subst hE
  obtain ⟨ok, hok, ⟨M, b, hL⟩, hnx, hnext⟩ := h.disk hbase
  obtain ⟨u1, u2, u3, u4⟩ := hI.u hn
  rw [← hI.us]
  exact Used_calls S M b ok pd w hL (by omega)
theorem rUsed (h : Both base w pd pr S R) (hbase : base ≤ w.heap.size) (hI : Inv n S R) (hn : n ≤ 400) (E : Nat) (hE : used R.L = E) : Calls Try.prog 46 #[.pointer (some ⟨pr, 0, none⟩)] w fun e w' => e = .returned (.int .i64 (E : Int)) ∧ w = w' := by
  subst hE
  obtain ⟨ok, hok, hL, hnx, hnext⟩ := h.ref hbase
  obtain ⟨u1, u2, u3, u4⟩ := hI.u hn
  exact RUsed_calls R (by omega) u3 ok pr w hL
theorem bDown (h : Both base w pd pr S R) (hbase : base ≤ w.heap.size) (hI : Inv n S R) (E : Bool) (hE : R.dead = E) : Calls Try.prog 20 #[.pointer (some ⟨pd, 0, none⟩)] w fun e w' => e = .returned (.bool E) ∧ w = w' := by
  subst hE
  obtain ⟨ok, hok, ⟨M, b, hL⟩, hnx, hnext⟩ := h.disk hbase
  rw [← hI.down]
  exact Down_calls S M b ok pd w hL
theorem bSynced (h : Both base w pd pr S R) (hbase : base ≤ w.heap.size) (a : Int) (hk : domI a) (E : Nat) (hE : (sg S.L a).2 = E) : Calls Try.prog 18 #[.pointer (some ⟨pd, 0, none⟩), .int .i64 a] w fun e w' => e = .returned (.int .i64 (E : Int)) ∧ w = w' := by
  subst hE
  obtain ⟨ok, hok, ⟨M, b, hL⟩, hnx, hnext⟩ := h.disk hbase
  exact Synced_calls S M b a ok pd w hL hk
theorem bSegs (h : Both base w pd pr S R) (hbase : base ≤ w.heap.size) (hI : Inv n S R) (hn : n ≤ 400) (ns : List Int) (hE : R.L.map (·.1) = ns) : Calls Try.prog 16 #[.pointer (some ⟨pd, 0, none⟩)] w fun e w' => ∃ A c, e = .returned (.slice A ns.length c) ∧ ns.length ≤ c ∧ Kd.R (Kd.int .i64) 3 w' w.heap.size (fun k => w.heap.size ≤ k) (.slice A ns.length c) ns ∧ Below w.heap.size w w' := by
  subst hE
  obtain ⟨ok, hok, ⟨M, b, hL⟩, hnx, hnext⟩ := h.disk hbase
  obtain ⟨u1, u2, u3, u4⟩ := hI.u hn
  rw [← nums_of hI.perm hI.up]
  exact Segs_calls S M b ok pd w hL u4
end
theorem both_new {base pd pr b2 : Nat} {w3 w4 : World} {S : DSt} {R : RSt} (hb : base ≤ b2) (h3 : IsD (fun k => b2 ≤ k) w3 pd S) (h4 : IsR (fun k => w3.heap.size ≤ k) w4 pr R) (hbelow : Below w3.heap.size w3 w4) (hs : b2 ≤ w3.heap.size) : Both base w4 pd pr S R :=
  ⟨fun k => k < w3.heap.size, (h3.refoot (fun k hk hl => ⟨Nat.le_trans hb hk, hl⟩)).below hbelow, h4.refoot (fun k hk _ => ⟨by omega, by omega⟩)⟩
end Go.Proofs.Ytnplnelhodnonaa.Dsk
