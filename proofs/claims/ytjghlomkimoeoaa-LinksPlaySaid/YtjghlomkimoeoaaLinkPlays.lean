/- Each call on links beside the document's. -/
import Derived.Test.YtjghlomkimoeoaaLinkBoth
namespace Go.Proofs.Ytjghlomkimoeoaa.Lnk
open Go.RowKit Go.Proofs.YtjghlomkimoeoaaW.PrintWords Go.Proofs.YtjghlomkimoeoaaW.PrintLast Go.Proofs.YtjghlomkimoeoaaW.PrintMore Go.Proofs.Ytjghlomkimoeoaa.PLinksPlay
open Amap Stp
set_option linter.unusedVariables false
set_option linter.unusedSimpArgs false
section
variable {base pl pr n : Nat} {w w1 : World} {S S' : LSt} {R R' : RSt}
theorem Nx.refl (base : Nat) (w : World) : Nx base w w := ⟨Below.refl _ _, Fr.refl _ _ _ _⟩
theorem Nx.size (h : Nx base w w1) : w.heap.size ≤ w1.heap.size := h.below.size
theorem Nx.trans {w2 : World} (h : Nx base w w1) (k : Nx base w1 w2) : Nx base w w2 := ⟨h.below.trans k.below, h.fr.trans k.fr⟩
/-- A row of bytes stays. -/
theorem Nx.keepR {ok : Nat → Prop} {b : Nat} {v : Value} {x : List Int} (h : Nx base w w1) (hR : Kd.R (Kd.int .u8) 5 w b ok v x) : Kd.R (Kd.int .u8) 5 w1 b ok v x := R_fr hR h.fr (by simp [Kd.int, Kd.scalar])
theorem bSend (h : Both base w pl pr S R) (hbase : base ≤ w.heap.size) (hI : Inv n S R') (a c : Int) (hk : domK (a, c)) (A : Option Addr) (cp : Nat) (x : List Int) (hC : Kd.C (Kd.int .u8) w A x.length x) (hcp : x.length ≤ cp) (hx : x.length ≤ 1000000) (E : Int) (hE : (send S (a, c) x).2 = E) :
    Calls Try.prog 19 #[.pointer (some ⟨pl, 0, none⟩), .int .i64 a, .int .i64 c, .slice A x.length cp] w fun e w' => e = .returned (.int .i64 E) ∧ Both base w' pl pr (send S (a, c) x).1 R ∧ Nx base w w' := by
  subst hE
  obtain ⟨ok, hok, hL, hnext⟩ := h.link hbase
  refine (Send_calls S a c hk A cp x ok pl w hok hL hC hcp hx).mono ?_
  rintro e w' ⟨rfl, h1, h2⟩
  exact ⟨rfl, hnext _ _ h1 h2⟩
theorem bRSend (h : Both base w pl pr S' R) (hbase : base ≤ w.heap.size) (hI : Inv n S R) (hn : n ≤ 700) (a c : Int) (A : Option Addr) (cp : Nat) (x : List Int) (hC : ∀ w1, Nx base w w1 → Kd.C (Kd.int .u8) w1 A x.length x) (hx : x.length ≤ 1000000) (E : Int) (hE : (send S (a, c) x).2 = E) :
    Calls Try.prog 33 #[.pointer (some ⟨pr, 0, none⟩), .int .i64 a, .int .i64 c, .slice A x.length cp] w fun e w' => e = .returned (.int .i64 E) ∧ Both base w' pl pr S' (rsend R (a, c) x).1 ∧ Nx base w w' := by
  subst hE
  obtain ⟨ok, hok, hL, hnx, hnext⟩ := h.ref hbase
  refine (RSend_calls R a c hI.rtot hI.al.nd (by have := hI.len; omega) A x.length cp x rfl ok pr w hok hL (hC w (Nx.refl _ _)) (fun w1 h1 => hC w1 (hnx w1 h1)) hx).mono ?_
  rintro e w' ⟨rfl, h1, h2⟩
  rw [(hI.send (a, c) hx).1]
  exact ⟨rfl, hnext _ _ h1 h2, hnx _ h2⟩
theorem bDouble (h : Both base w pl pr S R) (hbase : base ≤ w.heap.size) (hI : Inv n S R') (a c j : Int) (hk : domK (a, c)) (E : Int) (hE : (double S (a, c) j).2 = E) :
    Calls Try.prog 30 #[.pointer (some ⟨pl, 0, none⟩), .int .i64 a, .int .i64 c, .int .i64 j] w fun e w' => e = .returned (.int .i64 E) ∧ Both base w' pl pr (double S (a, c) j).1 R ∧ Nx base w w' := by
  subst hE
  obtain ⟨ok, hok, hL, hnext⟩ := h.link hbase
  refine (Double_calls S a c j hk hI.small ok pl w hok hL).mono ?_
  rintro e w' ⟨rfl, h1, h2⟩
  exact ⟨rfl, hnext _ _ h1 h2⟩
theorem bRDouble (h : Both base w pl pr S' R) (hbase : base ≤ w.heap.size) (hI : Inv n S R) (hn : n ≤ 700) (a c j : Int) (E : Int) (hE : (double S (a, c) j).2 = E) :
    Calls Try.prog 36 #[.pointer (some ⟨pr, 0, none⟩), .int .i64 a, .int .i64 c, .int .i64 j] w fun e w' => e = .returned (.int .i64 E) ∧ Both base w' pl pr S' (rdouble R (a, c) j).1 ∧ Nx base w w' := by
  subst hE
  obtain ⟨ok, hok, hL, hnx, hnext⟩ := h.ref hbase
  have hl := hI.len
  have hmain : Calls Try.prog 36 #[.pointer (some ⟨pr, 0, none⟩), .int .i64 a, .int .i64 c, .int .i64 j] w fun e w' => e = .returned (.int .i64 (rdouble R (a, c) j).2) ∧ IsR ok w' pr (rdouble R (a, c) j).1 ∧ Fy ok w w' := by
    cases hp : (rpeek R (a, c) j).2 with
    | none => exact RDouble_none R a c j hp hI.al.nd (by omega) ok pr w hok hL
    | some x => exact RDouble_some R a c j x hp (hI.small.peek ((hI.peek (a, c) j).1.symm.trans hp)) hI.rtot hI.al.nd (by omega) ok pr w hok hL
  refine hmain.mono ?_
  rintro e w' ⟨rfl, h1, h2⟩
  rw [(hI.double (a, c) j).1]
  exact ⟨rfl, hnext _ _ h1 h2, hnx _ h2⟩
theorem bTurn (h : Both base w pl pr S R) (hbase : base ≤ w.heap.size) (hI : Inv n S R') (a c : Int) (hk : domK (a, c)) (E : Bool) (hE : (turn S (a, c)).2 = E) :
    Calls Try.prog 37 #[.pointer (some ⟨pl, 0, none⟩), .int .i64 a, .int .i64 c] w fun e w' => e = .returned (.bool E) ∧ Both base w' pl pr (turn S (a, c)).1 R ∧ Nx base w w' := by
  subst hE
  obtain ⟨ok, hok, hL, hnext⟩ := h.link hbase
  have hmain : Calls Try.prog 37 #[.pointer (some ⟨pl, 0, none⟩), .int .i64 a, .int .i64 c] w fun e w' => e = .returned (.bool (turn S (a, c)).2) ∧ IsLink ok w' pl (turn S (a, c)).1 ∧ Fz ok w w' := by
    rcases hx : line S.L (a, c) with _ | ⟨x, _ | ⟨y, r⟩⟩
    · have e : turn S (a, c) = (S, false) := by unfold turn; rw [hx]
      rw [e]
      refine (Turn_no S a c hk (by rw [hx]; decide) ok pl w hL).mono ?_
      rintro e w' ⟨rfl, rfl⟩
      exact ⟨rfl, hL, Fz.refl _ _⟩
    · have e : turn S (a, c) = (S, false) := by unfold turn; rw [hx]
      rw [e]
      refine (Turn_no S a c hk (by rw [hx]; simp) ok pl w hL).mono ?_
      rintro e w' ⟨rfl, rfl⟩
      exact ⟨rfl, hL, Fz.refl _ _⟩
    · have e : turn S (a, c) = (⟨S.parties, mput S.L (a, c) (y :: r ++ [x])⟩, true) := by unfold turn; rw [hx]
      rw [e]
      exact Turn_yes S a c hk x (y :: r) hx (by simp) hI.small ok pl w hok hL
  refine hmain.mono ?_
  rintro e w' ⟨rfl, h1, h2⟩
  exact ⟨rfl, hnext _ _ h1 h2⟩
theorem bRTurn (h : Both base w pl pr S' R) (hbase : base ≤ w.heap.size) (hI : Inv n S R) (hn : n ≤ 700) (a c : Int) (E : Bool) (hE : (turn S (a, c)).2 = E) :
    Calls Try.prog 38 #[.pointer (some ⟨pr, 0, none⟩), .int .i64 a, .int .i64 c] w fun e w' => e = .returned (.bool E) ∧ Both base w' pl pr S' (rturn R (a, c)).1 ∧ Nx base w w' := by
  subst hE
  obtain ⟨ok, hok, hL, hnx, hnext⟩ := h.ref hbase
  have hl := hI.len
  have hmain : Calls Try.prog 38 #[.pointer (some ⟨pr, 0, none⟩), .int .i64 a, .int .i64 c] w fun e w' => e = .returned (.bool (rturn R (a, c)).2) ∧ IsR ok w' pr (rturn R (a, c)).1 ∧ Fy ok w w' := by
    cases ht : rthere R (a, c) with
    | false =>
      have e : (rturn R (a, c)).2 = false := by unfold rturn; rw [ht, if_pos rfl]
      rw [e]
      exact RTurn_no R a c (.inl ht) hI.al.nd (by omega) ok pr w hok hL
    | true =>
      rcases hx : line R.L (a, c) with _ | ⟨x, _ | ⟨y, r⟩⟩
      · have e : (rturn R (a, c)).2 = false := by unfold rturn; rw [ht, if_neg (by simp), hx]
        rw [e]
        exact RTurn_no R a c (.inr (by rw [hx]; decide)) hI.al.nd (by omega) ok pr w hok hL
      · have e : (rturn R (a, c)).2 = false := by unfold rturn; rw [ht, if_neg (by simp), hx]
        rw [e]
        exact RTurn_no R a c (.inr (by rw [hx]; simp)) hI.al.nd (by omega) ok pr w hok hL
      · have e : rturn R (a, c) = (⟨R.parties, mput (rfind R (a, c)).L (a, c) (y :: r ++ [x])⟩, true) := by unfold rturn; rw [ht, if_neg (by simp), hx]
        rw [e]
        exact RTurn_yes R a c x (y :: r) hx (by simp) ht hI.rtot hI.al.nd (by omega) ok pr w hok hL
  refine hmain.mono ?_
  rintro e w' ⟨rfl, h1, h2⟩
  rw [(hI.turn (a, c)).1]
  exact ⟨rfl, hnext _ _ h1 h2, hnx _ h2⟩
theorem bTotal (h : Both base w pl pr S R) (hbase : base ≤ w.heap.size) (E : Nat) (hE : tot S.L = E) : Calls Try.prog 23 #[.pointer (some ⟨pl, 0, none⟩)] w fun e w' => e = .returned (.int .i64 (E : Int)) ∧ w = w' := by
  subst hE
  obtain ⟨ok, hok, hL, hnext⟩ := h.link hbase
  exact Total_calls S ok pl w hL
theorem bRTotal (h : Both base w pl pr S' R) (hbase : base ≤ w.heap.size) (hI : Inv n S R) (hn : n ≤ 700) (E : Nat) (hE : tot S.L = E) : Calls Try.prog 39 #[.pointer (some ⟨pr, 0, none⟩)] w fun e w' => e = .returned (.int .i64 (E : Int)) ∧ w = w' := by
  obtain ⟨ok, hok, hL, hnx, hnext⟩ := h.ref hbase
  have hl := hI.len
  have ht := hI.rtot
  rw [← hE, hI.al.tot]
  exact RTotal_calls R (by omega) (by omega) ok pr w hL
theorem bCount (h : Both base w pl pr S R) (hbase : base ≤ w.heap.size) (a c : Int) (hk : domK (a, c)) (E : Nat) (hE : (line S.L (a, c)).length = E) : Calls Try.prog 22 #[.pointer (some ⟨pl, 0, none⟩), .int .i64 a, .int .i64 c] w fun e w' => e = .returned (.int .i64 (E : Int)) ∧ w = w' := by
  subst hE
  obtain ⟨ok, hok, hL, hnext⟩ := h.link hbase
  exact Count_calls S a c hk ok pl w hL
theorem bRCount (h : Both base w pl pr S' R) (hbase : base ≤ w.heap.size) (hI : Inv n S R) (hn : n ≤ 700) (a c : Int) (E : Nat) (hE : (line S.L (a, c)).length = E) : Calls Try.prog 40 #[.pointer (some ⟨pr, 0, none⟩), .int .i64 a, .int .i64 c] w fun e w' => e = .returned (.int .i64 (E : Int)) ∧ Both base w' pl pr S' (rcount R (a, c)).1 ∧ Nx base w w' := by
  subst hE
  obtain ⟨ok, hok, hL, hnx, hnext⟩ := h.ref hbase
  refine (RCount_calls R a c hI.al.nd (by have := hI.len; omega) ok pr w hok hL).mono ?_
  rintro e w' ⟨rfl, h1, h2⟩
  rw [(hI.count (a, c)).1]
  exact ⟨rfl, hnext _ _ h1 h2, hnx _ h2⟩
theorem bPeek (h : Both base w pl pr S R) (hbase : base ≤ w.heap.size) (hI : Inv n S R') (a c j : Int) (hk : domK (a, c)) (y : List Int) (b : Bool) (hy : (peek S (a, c) j).getD [] = y) (hb : (peek S (a, c) j).isSome = b) :
    Calls Try.prog 20 #[.pointer (some ⟨pl, 0, none⟩), .int .i64 a, .int .i64 c, .int .i64 j] w fun e w' => ∃ A2 c2, e = .returned (.tuple #[.slice A2 y.length c2, .bool b]) ∧ Kd.R (Kd.int .u8) 5 w' 0 (fun _ => True) (.slice A2 y.length c2) y ∧ Both base w' pl pr S R ∧ Nx base w w' := by
  obtain ⟨ok, hok, hL, hnext⟩ := h.link hbase
  cases hp : peek S (a, c) j with
  | none =>
    rw [hp] at hy hb
    cases hy
    cases hb
    refine (Peek_none S a c j hk hp ok pl w hL).mono ?_
    rintro e w' ⟨rfl, rfl⟩
    exact ⟨none, 0, rfl, Kd.R_nil _ _ _ _ _, h, Nx.refl _ _⟩
  | some x =>
    rw [hp] at hy hb
    cases hy
    cases hb
    refine (Peek_some S a c j hk x hp hI.small ok pl w hL).mono ?_
    rintro e w' ⟨A2, c2, rfl, hR, hB⟩
    exact ⟨A2, c2, rfl, Kd.R_lower hR (Nat.zero_le _), h.below hB, Nx.of_below hbase hB⟩
theorem bRPeek (h : Both base w pl pr S' R) (hbase : base ≤ w.heap.size) (hI : Inv n S R) (hn : n ≤ 700) (a c j : Int) (y : List Int) (b : Bool) (hy : (peek S (a, c) j).getD [] = y) (hb : (peek S (a, c) j).isSome = b) :
    Calls Try.prog 35 #[.pointer (some ⟨pr, 0, none⟩), .int .i64 a, .int .i64 c, .int .i64 j] w fun e w' => ∃ A2 c2, e = .returned (.tuple #[.slice A2 y.length c2, .bool b]) ∧ Kd.R (Kd.int .u8) 5 w' 0 (fun _ => True) (.slice A2 y.length c2) y ∧ Both base w' pl pr S' (rpeek R (a, c) j).1 ∧ Nx base w w' := by
  obtain ⟨ok, hok, hL, hnx, hnext⟩ := h.ref hbase
  have hl := hI.len
  have e1 := (hI.peek (a, c) j).1
  cases hp : peek S (a, c) j with
  | none =>
    rw [hp] at hy hb e1
    cases hy
    cases hb
    refine (RPeek_none R a c j e1 hI.al.nd (by omega) ok pr w hok hL).mono ?_
    rintro e w' ⟨rfl, h1, h2⟩
    exact ⟨none, 0, rfl, Kd.R_nil _ _ _ _ _, hnext _ _ h1 h2, hnx _ h2⟩
  | some x =>
    have hx := hI.small.peek hp
    rw [hp] at hy hb e1
    cases hy
    cases hb
    have hll : (line R.L (a, c)).length ≤ 1000 := by have := tot_put R.L (a, c) []; have := hI.rtot; simp at *; omega
    refine (RPeek_some R a c j x e1 hI.al.nd (by omega) hll hx ok pr w hok hL).mono ?_
    rintro e w' ⟨A2, c2, rfl, hR, h1, h2⟩
    exact ⟨A2, c2, rfl, Kd.R_lower hR (Nat.zero_le _), hnext _ _ h1 h2, hnx _ h2⟩
theorem bTake (h : Both base w pl pr S R) (hbase : base ≤ w.heap.size) (hI : Inv n S R') (a c j : Int) (hk : domK (a, c)) (y : List Int) (b : Bool) (hy : (peek S (a, c) j).getD [] = y) (hb : (peek S (a, c) j).isSome = b) :
    Calls Try.prog 21 #[.pointer (some ⟨pl, 0, none⟩), .int .i64 a, .int .i64 c, .int .i64 j] w fun e w' => ∃ A2 c2, e = .returned (.tuple #[.slice A2 y.length c2, .bool b]) ∧ Kd.R (Kd.int .u8) 5 w' 0 (fun _ => True) (.slice A2 y.length c2) y ∧ Both base w' pl pr (take S (a, c) j) R ∧ Nx base w w' := by
  obtain ⟨ok, hok, hL, hnext⟩ := h.link hbase
  cases hp : peek S (a, c) j with
  | none =>
    have e : take S (a, c) j = S := by unfold take; rw [hp]
    rw [hp] at hy hb
    cases hy
    cases hb
    rw [e]
    refine (Take_none S a c j hk hp ok pl w hL).mono ?_
    rintro e w' ⟨rfl, rfl⟩
    exact ⟨none, 0, rfl, Kd.R_nil _ _ _ _ _, h, Nx.refl _ _⟩
  | some x =>
    rw [hp] at hy hb
    cases hy
    cases hb
    refine (Take_some S a c j hk x hp hI.small ok pl w hok hL).mono ?_
    rintro e w' ⟨A2, c2, rfl, hR, h1, h2⟩
    exact ⟨A2, c2, rfl, Kd.R_lower hR (Nat.zero_le _), hnext _ _ h1 h2⟩
theorem bRTake (h : Both base w pl pr S' R) (hbase : base ≤ w.heap.size) (hI : Inv n S R) (hn : n ≤ 700) (a c j : Int) (y : List Int) (b : Bool) (hy : (peek S (a, c) j).getD [] = y) (hb : (peek S (a, c) j).isSome = b) :
    Calls Try.prog 34 #[.pointer (some ⟨pr, 0, none⟩), .int .i64 a, .int .i64 c, .int .i64 j] w fun e w' => ∃ A2 c2, e = .returned (.tuple #[.slice A2 y.length c2, .bool b]) ∧ Kd.R (Kd.int .u8) 5 w' 0 (fun _ => True) (.slice A2 y.length c2) y ∧ Both base w' pl pr S' (rtake R (a, c) j) ∧ Nx base w w' := by
  obtain ⟨ok, hok, hL, hnx, hnext⟩ := h.ref hbase
  have hl := hI.len
  have e1 := (hI.peek (a, c) j).1
  cases hp : peek S (a, c) j with
  | none =>
    rw [hp] at hy hb e1
    cases hy
    cases hb
    refine (RTake_none R a c j e1 hI.al.nd (by omega) ok pr w hok hL).mono ?_
    rintro e w' ⟨rfl, h1, h2⟩
    exact ⟨none, 0, rfl, Kd.R_nil _ _ _ _ _, hnext _ _ h1 h2, hnx _ h2⟩
  | some x =>
    have hx := hI.small.peek hp
    rw [hp] at hy hb e1
    cases hy
    cases hb
    refine (RTake_some R a c j x e1 hx hI.rtot hI.al.nd (by omega) ok pr w hok hL).mono ?_
    rintro e w' ⟨A2, c2, rfl, hR, h1, h2⟩
    exact ⟨A2, c2, rfl, Kd.R_lower hR (Nat.zero_le _), hnext _ _ h1 h2, hnx _ h2⟩
end
theorem both_new {base pl pr : Nat} {w3 w4 : World} {b2 : Nat} {S : LSt} {R : RSt} (hb : base ≤ b2) (h3 : IsLink (fun k => b2 ≤ k) w3 pl S) (h4 : IsR (fun k => w3.heap.size ≤ k) w4 pr R) (hbelow : Below w3.heap.size w3 w4) (hs : b2 ≤ w3.heap.size) : Both base w4 pl pr S R :=
  ⟨fun k => k < w3.heap.size, (h3.refoot (fun k hk hl => ⟨Nat.le_trans hb hk, hl⟩)).below hbelow, h4.refoot (fun k hk _ => ⟨by omega, by omega⟩)⟩
end Go.Proofs.Ytjghlomkimoeoaa.Lnk
