/- Links and the document's links beside each other; what holds along a script; Few. -/
import Derived.Test.YtjghlomkimoeoaaLinkRefTurn
namespace Go.Proofs.Ytjghlomkimoeoaa.Lnk
open Go.RowKit Go.Proofs.YtjghlomkimoeoaaW.PrintWords Go.Proofs.YtjghlomkimoeoaaW.PrintLast Go.Proofs.YtjghlomkimoeoaaW.PrintMore Go.Proofs.Ytjghlomkimoeoaa.PLinksPlay
open Amap Stp
set_option linter.unusedVariables false
set_option linter.unusedSimpArgs false
/-! ### plain -/
theorem all_put2 {P : List Int → Prop} {L : List (Key × List (List Int))} {k : Key} {v : List (List Int)} (h : ∀ q ∈ L, ∀ x ∈ q.2, P x) (hv : ∀ x ∈ v, P x) : ∀ q ∈ mput L k v, ∀ x ∈ q.2, P x := by
  induction L with
  | nil =>
    intro q hq x hx
    simp only [mput, List.mem_singleton] at hq
    subst hq
    exact hv x hx
  | cons p L ih =>
    intro q hq x hx
    unfold mput at hq
    split at hq
    · rcases List.mem_cons.1 hq with rfl | hq
      · exact hv x hx
      · exact h q (List.mem_cons_of_mem _ hq) x hx
    · rcases List.mem_cons.1 hq with rfl | hq
      · exact h q (by simp) x hx
      · exact ih (fun q hq => h q (List.mem_cons_of_mem _ hq)) q hq x hx
theorem line_all {P : List Int → Prop} {L : List (Key × List (List Int))} (h : ∀ q ∈ L, ∀ x ∈ q.2, P x) (k : Key) : ∀ x ∈ line L k, P x := by
  unfold line
  cases hl : mlook L k with
  | none => simp
  | some y => exact h (k, y) (mlook_mem hl)
theorem Small.put {S : LSt} (h : Small S) (k : Key) {v : List (List Int)} (ht : tot S.L + v.length ≤ 100 + (Lnk.line S.L k).length) (hv : ∀ x ∈ v, x.length ≤ 1000000) : Small ⟨S.parties, mput S.L k v⟩ := by
  have := tot_put S.L k v
  exact ⟨by simp only []; omega, all_put2 h.2 hv⟩
theorem Small.send {S : LSt} (h : Small S) (k : Key) {b : List Int} (hb : b.length ≤ 1000000) : Small (send S k b).1 := by
  unfold Lnk.send
  split
  · exact h
  · split
    · exact h
    · refine h.put k (by simp; omega) (fun x hx => ?_)
      rcases List.mem_append.1 hx with hx | hx
      · exact line_all h.2 k x hx
      · rw [List.mem_singleton.1 hx]; exact hb
theorem Small.peek {S : LSt} (h : Small S) {k : Key} {i : Int} {x : List Int} (hx : peek S k i = some x) : x.length ≤ 1000000 := line_all h.2 k x (List.mem_of_getElem? (peek_some hx).2.2)
theorem Small.take {S : LSt} (h : Small S) (k : Key) (i : Int) : Small (take S k i) := by
  unfold Lnk.take
  split
  · exact h
  · have hle : ((Lnk.line S.L k).eraseIdx i.toNat).length ≤ (Lnk.line S.L k).length := List.length_eraseIdx_le _ _
    exact h.put k (by have := h.1; omega) (fun x hx => line_all h.2 k x (List.mem_of_mem_eraseIdx hx))
theorem Small.double {S : LSt} (h : Small S) (k : Key) (i : Int) : Small (double S k i).1 := by
  unfold Lnk.double
  split
  · exact h
  · rename_i x hx
    exact h.send k (h.peek hx)
theorem Small.turn {S : LSt} (h : Small S) (k : Key) : Small (turn S k).1 := by
  unfold Lnk.turn
  split
  · rename_i x y r hl
    have ha := line_all h.2 k
    rw [hl] at ha
    refine h.put k (by have := h.1; rw [hl]; simp; omega) (fun z hz => ha z ?_)
    rcases List.mem_append.1 hz with hz | hz
    · exact List.mem_cons_of_mem _ hz
    · rw [List.mem_singleton.1 hz]; exact List.mem_cons_self ..
  · exact h
theorem len_put (R : RSt) (hn : (R.L.map (·.1)).Nodup) (k : Key) (v : List (List Int)) : (mput (rfind R k).L k v).length = (rfind R k).L.length := by
  have hl : ∃ u, mlook (rfind R k).L k = some u := by
    have h := rfind_twice R k
    cases hl : mlook (rfind R k).L k with
    | some u => exact ⟨u, rfl⟩
    | none =>
      have e : (rfind (rfind R k) k).L.length = (rfind R k).L.length + 1 := by
        generalize rfind R k = R1 at hl
        unfold rfind
        rw [hl]
        simp
      rw [h] at e
      omega
  obtain ⟨u, hu⟩ := hl
  obtain ⟨j, hj, e⟩ := List.getElem_of_mem (mlook_mem hu)
  rw [mput_at (nd_rfind hn k) (j := j) (v0 := u) (by rw [List.getElem?_eq_getElem hj, e]), List.length_set]
theorem len_rsend {R : RSt} (hn : (R.L.map (·.1)).Nodup) (k : Key) (b : List Int) : (rsend R k b).1.L.length ≤ (rfind R k).L.length := by
  unfold rsend
  have h0 : R.L.length ≤ (rfind R k).L.length := by unfold rfind; split <;> simp
  split
  · exact h0
  · split
    · exact Nat.le_refl _
    · exact Nat.le_of_eq (len_put R hn k _)
theorem len_rpeek (R : RSt) (k : Key) (i : Int) : (rpeek R k i).1.L.length ≤ (rfind R k).L.length := by
  unfold rpeek
  have h0 : R.L.length ≤ (rfind R k).L.length := by unfold rfind; split <;> simp
  split
  · exact h0
  · exact Nat.le_refl _
theorem len_rtake {R : RSt} (hn : (R.L.map (·.1)).Nodup) (k : Key) (i : Int) : (rtake R k i).L.length ≤ R.L.length + 1 := by
  have h1 := len_rfind R k
  have h2 := len_rpeek R k i
  unfold rtake
  split
  · omega
  · have := len_put R hn k ((line R.L k).eraseIdx i.toNat)
    simp only []
    omega
theorem len_rdouble {R : RSt} (hn : (R.L.map (·.1)).Nodup) (k : Key) (i : Int) : (rdouble R k i).1.L.length ≤ R.L.length + 1 := by
  have h1 := len_rfind R k
  have h2 := len_rpeek R k i
  unfold rdouble
  split
  · simp only []; omega
  · rename_i x hx
    have h3 := (rpeek_facts R k i).2.2 hn
    have h4 := len_rsend h3 k x
    have h5 : rthere R k = true := by
      cases ht : rthere R k with
      | true => rfl
      | false => unfold rpeek at hx; rw [ht, if_pos rfl] at hx; cases hx
    have h6 : (rpeek R k i).1 = rfind R k := by unfold rpeek; rw [h5, if_neg (by simp)]
    rw [h6, rfind_twice] at h4
    rw [h6]
    omega
theorem len_rturn {R : RSt} (hn : (R.L.map (·.1)).Nodup) (k : Key) : (rturn R k).1.L.length ≤ R.L.length + 1 := by
  have h1 := len_rfind R k
  unfold rturn
  split
  · simp only []; omega
  · split
    · rename_i x y r hl
      have := len_put R hn k (y :: r ++ [x])
      simp only []
      omega
    · exact h1
theorem len_rcount (R : RSt) (k : Key) : (rcount R k).1.L.length ≤ R.L.length + 1 := by
  have h1 := len_rfind R k
  unfold rcount
  split
  · simp only []; omega
  · exact h1
/-- What holds of both along a script. -/
structure Inv (n : Nat) (S : LSt) (R : RSt) : Prop where
  al : Alike S R
  dead : Dead S
  small : Small S
  len : R.L.length ≤ n
theorem Inv.new (q : Int) : Inv 0 ⟨q, []⟩ ⟨q, []⟩ := ⟨⟨rfl, fun _ => rfl, by simp, rfl⟩, fun _ _ => rfl, ⟨by simp [tot], by simp⟩, Nat.le_refl _⟩
theorem Inv.rtot {n : Nat} {S : LSt} {R : RSt} (h : Inv n S R) : tot R.L ≤ 100 := by have := h.al.tot; have := h.small.1; omega
theorem Inv.send {n : Nat} {S : LSt} {R : RSt} (h : Inv n S R) (k : Key) {b : List Int} (hb : b.length ≤ 1000000) : (rsend R k b).2 = (send S k b).2 ∧ Inv (n + 1) (send S k b).1 (rsend R k b).1 :=
  ⟨(h.al.send k b).1.symm, (h.al.send k b).2, h.dead.send k b, h.small.send k hb, by have := len_rsend h.al.nd k b; have := len_rfind R k; have := h.len; omega⟩
theorem Inv.take {n : Nat} {S : LSt} {R : RSt} (h : Inv n S R) (k : Key) (i : Int) : Inv (n + 1) (take S k i) (rtake R k i) :=
  ⟨h.al.take h.dead k i, h.dead.take k i, h.small.take k i, by have := len_rtake h.al.nd k i; have := h.len; omega⟩
theorem Inv.peek {n : Nat} {S : LSt} {R : RSt} (h : Inv n S R) (k : Key) (i : Int) : (rpeek R k i).2 = peek S k i ∧ Inv (n + 1) S (rpeek R k i).1 :=
  ⟨(h.al.peek h.dead k i).1.symm, (h.al.peek h.dead k i).2, h.dead, h.small, by have := (rpeek_facts R k i).2.1; have := h.len; omega⟩
theorem Inv.double {n : Nat} {S : LSt} {R : RSt} (h : Inv n S R) (k : Key) (i : Int) : (rdouble R k i).2 = (double S k i).2 ∧ Inv (n + 1) (double S k i).1 (rdouble R k i).1 :=
  ⟨(h.al.double h.dead k i).1.symm, (h.al.double h.dead k i).2, h.dead.double k i, h.small.double k i, by have := len_rdouble h.al.nd k i; have := h.len; omega⟩
theorem Inv.turn {n : Nat} {S : LSt} {R : RSt} (h : Inv n S R) (k : Key) : (rturn R k).2 = (turn S k).2 ∧ Inv (n + 1) (turn S k).1 (rturn R k).1 :=
  ⟨(h.al.turn h.dead k).1.symm, (h.al.turn h.dead k).2, h.dead.turn k, h.small.turn k, by have := len_rturn h.al.nd k; have := h.len; omega⟩
theorem Inv.count {n : Nat} {S : LSt} {R : RSt} (h : Inv n S R) (k : Key) : (rcount R k).2 = (line S.L k).length ∧ Inv (n + 1) S (rcount R k).1 :=
  ⟨(h.al.count h.dead k).1.symm, (h.al.count h.dead k).2, h.dead, h.small, by have := len_rcount R k; have := h.len; omega⟩
theorem Inv.up {n m : Nat} {S : LSt} {R : RSt} (h : Inv n S R) (hm : n ≤ m) : Inv m S R := ⟨h.al, h.dead, h.small, Nat.le_trans h.len hm⟩
/-! ### in memory, beside each other -/
def Both (base : Nat) (w : World) (pl pr : Nat) (S : LSt) (R : RSt) : Prop := ∃ ok : Nat → Prop, IsLink (fun k => base ≤ k ∧ ok k) w pl S ∧ IsR (fun k => base ≤ k ∧ ¬ ok k) w pr R
structure Nx (base : Nat) (w w' : World) : Prop where
  below : Below base w w'
  fr : Fr [115, 25, 134, 138] true 0 w w'
section
variable {base pl pr : Nat} {w w1 : World} {S : LSt} {R : RSt}
theorem Both.below (h : Both base w pl pr S R) (hb : Below w.heap.size w w1) : Both base w1 pl pr S R := by
  obtain ⟨ok, h1, h2⟩ := h
  exact ⟨ok, h1.below hb, h2.below hb⟩
theorem Nx.of_below (hbase : base ≤ w.heap.size) (hb : Below w.heap.size w w1) : Nx base w w1 := ⟨hb.mono hbase, Fr.of_below (Nat.zero_le _) hb _ _⟩
theorem Both.link (h : Both base w pl pr S R) (hbase : base ≤ w.heap.size) : ∃ ok : Nat → Prop, (∀ k, w.heap.size ≤ k → ok k) ∧ IsLink ok w pl S ∧ ∀ w' S', IsLink ok w' pl S' → Fz ok w w' → Both base w' pl pr S' R ∧ Nx base w w' := by
  obtain ⟨ok, h1, h2⟩ := h
  refine ⟨fun k => (base ≤ k ∧ ok k) ∨ w.heap.size ≤ k, fun k hk => .inr hk, h1.refoot (fun k hk _ => .inl hk), fun w' S' h3 hf => ⟨⟨fun k => (base ≤ k ∧ ok k) ∨ w.heap.size ≤ k, h3.refoot (fun k hk _ => ⟨?_, hk⟩), ?_⟩, ?_, ?_⟩⟩
  · rcases hk with hk | hk
    · exact hk.1
    · omega
  · have h4 : ∀ k, (base ≤ k ∧ ¬ ok k) → k < w.heap.size → ¬ ((base ≤ k ∧ ok k) ∨ w.heap.size ≤ k) := fun k hk hl e => by
      rcases e with e | e
      · exact hk.2 e.2
      · omega
    have h5 := h2.refoot (ok' := fun k => (base ≤ k ∧ ¬ ((base ≤ k ∧ ok k) ∨ w.heap.size ≤ k)) ∧ k < w.heap.size) (fun k hk hl => ⟨⟨hk.1, h4 k hk hl⟩, hl⟩)
    exact (h5.move (fun k hk hl => hf.kp.same k hl hk.1.2)).refoot (fun k hk _ => hk.1)
  · exact (hf.mono (ok' := up base) (fun k hk => by
      rcases hk with hk | hk
      · exact hk.1
      · exact Nat.le_trans hbase hk)).up hbase
  · exact hf.fr.mono (by simp) (fun h => h)
theorem Both.ref (h : Both base w pl pr S R) (hbase : base ≤ w.heap.size) : ∃ ok : Nat → Prop, (∀ k, w.heap.size ≤ k → ok k) ∧ IsR ok w pr R ∧ (∀ w', Fy ok w w' → Nx base w w') ∧ ∀ w' R', IsR ok w' pr R' → Fy ok w w' → Both base w' pl pr S R' := by
  obtain ⟨ok, h1, h2⟩ := h
  have hup : ∀ k, ((base ≤ k ∧ ¬ ok k) ∨ w.heap.size ≤ k) → up base k := fun k hk => by
    rcases hk with hk | hk
    · exact hk.1
    · exact Nat.le_trans hbase hk
  refine ⟨fun k => (base ≤ k ∧ ¬ ok k) ∨ w.heap.size ≤ k, fun k hk => .inr hk, h2.refoot (fun k hk _ => .inl hk), fun w' hf => ⟨?_, hf.fr.mono (by simp) (by simp)⟩, fun w' R' h3 hf => ⟨fun k => ok k ∧ k < w.heap.size, ?_, h3.refoot (fun k hk _ => ⟨hup k hk, ?_⟩)⟩⟩
  · exact (show Kp (up base) w w' from ⟨hf.kp.below, fun k hk hn => hf.kp.same k hk (fun e => hn (hup k e))⟩).up hbase
  · have h5 := h1.refoot (ok' := fun k => (base ≤ k ∧ ok k) ∧ k < w.heap.size) (fun k hk hl => ⟨hk, hl⟩)
    exact (h5.move (fun k hk hl => hf.kp.same k hl (fun e => by
      rcases e with e | e
      · exact e.2 hk.1.2
      · omega))).refoot (fun k hk _ => ⟨hk.1.1, hk.1.2, hk.2⟩)
  · rintro ⟨h7, h8⟩
    rcases hk with hk | hk
    · exact hk.2 h7
    · omega
end
/-! ### Few -/
theorem few_l0 (l : List S60) (hl : l.length ≤ 9223372036854775806) (hx : ∀ i : Nat, i < l.length → (rd_T60 l (i : Int)).f4.length ≤ 140737488351232) : ∀ (d i n : Nat), l.length ≤ i + d → i ≤ l.length → i ≤ 300 → n ≤ 20000 → (∀ j : Nat, j < i → (rd_T60 l (j : Int)).f4.length ≤ 20000) →
    ∃ b, (b = true → l.length ≤ 300 ∧ ∀ j : Nat, j < l.length → (rd_T60 l (j : Int)).f4.length ≤ 20000) ∧ ∀ k, d < k → tumbrellaw17_Few.l0 k l (n : Int) (l.length : Int) (i : Int) = some b
  | d, i, n, h1, h2, h3, h4, h5 => by
    by_cases hlt : i < l.length
    · cases d with
      | zero => omega
      | succ d =>
        have hxi := hx i hlt
        by_cases h6 : (i : Int) ≥ 300
        · refine ⟨false, by simp, fun k hk => ?_⟩
          obtain ⟨k, rfl⟩ : ∃ m, k = m + 1 := ⟨k - 1, by omega⟩
          simp only [tumbrellaw17_Few.l0]
          rw [if_pos (by omega), if_pos (by omega), if_pos (by omega), if_pos h6]
        · have hw : wrap64 ((n : Int) + ((rd_T60 l (i : Int)).f4.length : Int)) = ((n + (rd_T60 l (i : Int)).f4.length : Nat) : Int) := by unfold wrap64; omega
          by_cases h7 : ((n + (rd_T60 l (i : Int)).f4.length : Nat) : Int) > 20000
          · refine ⟨false, by simp, fun k hk => ?_⟩
            obtain ⟨k, rfl⟩ : ∃ m, k = m + 1 := ⟨k - 1, by omega⟩
            simp only [tumbrellaw17_Few.l0]
            rw [if_pos (by omega), if_pos (by omega), if_pos (by omega), if_neg h6, hw, if_pos h7]
          · obtain ⟨b, hb, hf⟩ := few_l0 l hl hx d (i + 1) (n + (rd_T60 l (i : Int)).f4.length) (by omega) (by omega) (by omega) (by omega) (fun j hj => by
              by_cases e : j = i
              · subst e; omega
              · exact h5 j (by omega))
            refine ⟨b, hb, fun k hk => ?_⟩
            obtain ⟨k, rfl⟩ : ∃ m, k = m + 1 := ⟨k - 1, by omega⟩
            simp only [tumbrellaw17_Few.l0]
            rw [if_pos (by omega), if_pos (by omega), if_pos (by omega), if_neg h6, hw, if_neg h7]
            rw [show wrap64 ((i : Int) + 1) = ((i + 1 : Nat) : Int) from by unfold wrap64; omega]
            exact hf k (by omega)
    · refine ⟨true, fun _ => ⟨by omega, fun j hj => h5 j (by omega)⟩, fun k hk => ?_⟩
      obtain ⟨k, rfl⟩ : ∃ m, k = m + 1 := ⟨k - 1, by omega⟩
      simp only [tumbrellaw17_Few.l0]
      rw [if_neg (by omega)]
termination_by d => d
theorem few_calls (l : List S60) (hl : l.length ≤ 9223372036854775806) (hx : ∀ x ∈ l, x.f4.length ≤ 140737488351232) : ∃ b, (b = true → l.length ≤ 300 ∧ ∀ x ∈ l, x.f4.length ≤ 20000) ∧ ∀ (A : Option Addr) (c : Nat) (w : World), Kd.C k60 w A l.length l → l.length ≤ c →
    Calls Try.prog 31 #[.slice A l.length c] w fun e w' => e = .returned (.bool b) ∧ Drawn0 w w' := by
  have hrd : ∀ j : Nat, j < l.length → rd_T60 l (j : Int) ∈ l := fun j hj => by
    simp [rd_T60, List.getD_eq_getElem?_getD, List.getElem?_eq_getElem hj]
  obtain ⟨b, hb, hf⟩ := few_l0 l hl (fun i hi => hx _ (hrd i hi)) l.length 0 0 (by omega) (by omega) (by omega) (by omega) (fun j hj => absurd hj (by omega))
  refine ⟨b, fun e => ⟨(hb e).1, fun x hx => ?_⟩, fun A c w hC hc => tumbrellaw17_Few.calls (l.length + 1) A c l b w hC hc (hf _ (by omega))⟩
  obtain ⟨j, hj, e2⟩ := List.getElem_of_mem hx
  have := (hb e).2 j hj
  simpa [rd_T60, List.getD_eq_getElem?_getD, List.getElem?_eq_getElem hj, e2] using this
end Go.Proofs.Ytjghlomkimoeoaa.Lnk
