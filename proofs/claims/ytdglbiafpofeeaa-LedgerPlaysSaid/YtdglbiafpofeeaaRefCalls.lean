/- The document's Take in one text. -/
import Derived.Test.YtdglbiafpofeeaaRefTake
import Derived.Test.YtdglbiafpofeeaaPLedgerPlaysx4
namespace Go.Proofs.Ytdglbiafpofeeaa.Led
open Go.RowKit Go.Proofs.YtdglbiafpofeeaaW.PrintWords Go.Proofs.YtdglbiafpofeeaaW.PrintLast Go.Proofs.YtdglbiafpofeeaaW.PrintMore Go.Proofs.Ytdglbiafpofeeaa.PLedgerPlays
set_option linter.unusedVariables false
set_option linter.unusedSimpArgs false
set_option maxHeartbeats 2000000 in
set_option maxRecDepth 100000 in
theorem rTake_no (m : Msg) (acc : Bool) (ht : takes m = false) (p : Nat) (w : World) :
    Calls Try.prog 18 #[.pointer (some ⟨p, 0, none⟩), msgV m, .bool acc] w fun e w' => e = .returned (.tuple #[msgV msg0, .bool false]) ∧ Below w.heap.size w w' := by
  obtain ⟨kind, inst, turn, name, att, ok⟩ := m
  have hfm := rformed_f ⟨kind, inst, turn, name, att, ok⟩
  by_cases hf : formed ⟨kind, inst, turn, name, att, ok⟩ = true
  · have hk : 2 < kind := by
      simp only [takes, hf, Bool.true_and, decide_eq_false_iff_not] at ht
      omega
    rw [hf] at hfm
    have hfm' := Aside0.mk hfm
    have hd : decide (2 < kind) = true := decide_eq_true hk
    clear hfm hf ht
    unfold msgV msg0
    go_enter Try.func18, Try.ntmps18
    go_wp2_with (first | (go_at_call 37; (with_reducible refine (tumbrelref18_Formed.calls kind inst turn name att ok true _ hfm'.out).mono ?_); rintro e w1 ⟨rfl, hb1⟩; obtain ⟨hc1, hf1⟩ := bcell hb1) | go_in)
    refine bodyPost_ret (v := .tuple #[msgV msg0, .bool false]) (by simp [results, Try.results18, go_sem, msgV, msg0, hc1]) rfl ⟨rfl, ?_⟩
    have hb2 : Below w.heap.size w w1 := below_step (below_alloc (below_alloc (Below.refl _ _) _) _) hb1
    repeat (refine Below.setCell ?_ (by simp) _)
    exact hb2
  · have hf' : formed ⟨kind, inst, turn, name, att, ok⟩ = false := by simpa using hf
    rw [hf'] at hfm
    have hfm' := Aside0.mk hfm
    clear hfm hf ht hf'
    unfold msgV msg0
    go_enter Try.func18, Try.ntmps18
    go_wp2_with (first | (go_at_call 37; (with_reducible refine (tumbrelref18_Formed.calls kind inst turn name att ok false _ hfm'.out).mono ?_); rintro e w1 ⟨rfl, hb1⟩; obtain ⟨hc1, hf1⟩ := bcell hb1) | go_in)
    refine bodyPost_ret (v := .tuple #[msgV msg0, .bool false]) (by simp [results, Try.results18, go_sem, msgV, msg0, hc1]) rfl ⟨rfl, ?_⟩
    have hb2 : Below w.heap.size w w1 := below_step (below_alloc (below_alloc (Below.refl _ _) _) _) hb1
    repeat (refine Below.setCell ?_ (by simp) _)
    exact hb2
def IsRef (base : Nat) (w : World) (p : Nat) (L : List S100) (E : List S103) : Prop := ∃ lv ev, RefAt base w p L E lv ev
theorem IsRef.fr {T : List Nat} {mp : Bool} {base base' : Nat} {w w1 : World} {p : Nat} {L : List S100} {E : List S103} (h : IsRef base w p L E) (f : Fr T mp base' w w1) (h1 : 41 ∉ T) (h2 : 100 ∉ T) (h3 : 103 ∉ T) : IsRef base w1 p L E := by
  obtain ⟨lv, ev, h⟩ := h
  exact ⟨lv, ev, h.pb, f.same _ _ h.blk h1, R_fr h.L f (by intro q hq; simp [k100, Kd.iso, Kd.pair, Kd.bool, Kd.int, Kd.scalar] at hq; subst hq; exact h2), R_fr h.E f (by intro q hq; simp [k103, Kd.iso, Kd.pair, Kd.bool, Kd.int, Kd.string, Kd.scalar] at hq; subst hq; exact h3)⟩
theorem IsRef.below {base : Nat} {w w1 : World} {p : Nat} {L : List S100} {E : List S103} (h : IsRef base w p L E) (f : Below w.heap.size w w1) : IsRef base w1 p L E :=
  h.fr (Fr.of_below (Nat.le_refl _) f [] false) (by simp) (by simp) (by simp)
/-- The document's Take, beside the program's state S: it answers as that does. -/
theorem rTake_at (S : St) (hn : (S.L.map (·.1)).Nodup) (hlen : S.L.length ≤ 200) (hE : S.E.length ≤ 100000) (kind inst turn : Int) (name : ByteArray) (att : Int) (ok acc : Bool) (S' : St) (kind' inst' turn' : Int) (name' : ByteArray) (att' : Int) (ok' r : Bool)
    (hr : take S ⟨kind, inst, turn, name, att, ok⟩ acc = (S', ⟨kind', inst', turn', name', att', ok'⟩, r)) (base p : Nat) (w : World) (hbase : base ≤ w.heap.size) (h : IsRef base w p (S.L.map toRef) (S.E.map effR)) :
    Calls Try.prog 18 #[.pointer (some ⟨p, 0, none⟩), .agg #[.int .i64 kind, .int .i64 inst, .int .i64 turn, .string name, .int .i64 att, .bool ok], .bool acc] w fun e w' => e = .returned (.tuple #[.agg #[.int .i64 kind', .int .i64 inst', .int .i64 turn', .string name', .int .i64 att', .bool ok'], .bool r]) ∧ IsRef base w' p (S'.L.map toRef) (S'.E.map effR) ∧ Fr [41] false base w w' := by
  have hs := sim_take hn hlen ⟨kind, inst, turn, name, att, ok⟩ acc
  rw [hr] at hs
  obtain ⟨lv, ev, h⟩ := h
  cases ht : takes ⟨kind, inst, turn, name, att, ok⟩ with
  | true =>
    refine (rTake_yes (S.L.map toRef) (S.E.map effR) ⟨kind, inst, turn, name, att, ok⟩ acc ht _ hs base p w lv ev hbase h (by simpa using hlen) (by simpa using hE)).mono ?_
    rintro e w' ⟨he, hA, hk, hb⟩
    exact ⟨he, hA, Fr.keep (Fr.refl _ _ _ _) h.blk (by simp) hb hk⟩
  | false =>
    refine (rTake_no ⟨kind, inst, turn, name, att, ok⟩ acc ht p w).mono ?_
    rintro e w' ⟨he, hb⟩
    rw [take_no ht] at hr
    obtain ⟨rfl, h2⟩ := Prod.mk.inj hr
    obtain ⟨h3, rfl⟩ := Prod.mk.inj h2
    refine ⟨?_, (show IsRef base w p (S.L.map toRef) (S.E.map effR) from ⟨lv, ev, h⟩).below hb, Fr.of_below hbase hb _ _⟩
    rw [he]
    unfold msgV
    rw [h3]
theorem ref_new (base : Nat) (w : World) (hb : base ≤ w.heap.size) : IsRef base (w.alloc (.cells #[.slice none 0 0, .slice none 0 0] 41)) w.heap.size [] [] :=
  ⟨.slice none 0 0, .slice none 0 0, hb, blk_new _ _, Kd.R_nil _ _ _ _ _, Kd.R_nil _ _ _ _ _⟩
end Go.Proofs.Ytdglbiafpofeeaa.Led
