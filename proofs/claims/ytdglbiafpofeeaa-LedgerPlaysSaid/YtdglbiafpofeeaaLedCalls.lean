/- The ledger's calls in one text: New, Take, Effects, Len; and awake. -/
import Derived.Test.YtdglbiafpofeeaaLedTake
namespace Go.Proofs.Ytdglbiafpofeeaa.Led
open Go.RowKit Go.Proofs.YtdglbiafpofeeaaW.PrintWords Go.Proofs.YtdglbiafpofeeaaW.PrintLast Go.Proofs.YtdglbiafpofeeaaW.PrintMore Go.Proofs.Ytdglbiafpofeeaa.PLedgerPlays
open Amap
set_option linter.unusedVariables false
set_option linter.unusedSimpArgs false

theorem IsLed.fr {T : List Nat} {base base' : Nat} {w w1 : World} {p : Nat} {S : St} (h : IsLed base w p S) (f : Fr T false base' w w1) (h1 : 44 ∉ T) (h2 : 95 ∉ T) (h3 : 36 ∉ T) : IsLed base w1 p S := by
  obtain ⟨M, ent, mv, ev, h⟩ := h
  exact ⟨M, ent, mv, ev, h.fr f h1 h2 h3⟩
theorem IsLed.below {base : Nat} {w w1 : World} {p : Nat} {S : St} (h : IsLed base w p S) (f : Below w.heap.size w w1) : IsLed base w1 p S :=
  h.fr (Fr.of_below (Nat.le_refl _) f [] false) (by simp) (by simp) (by simp)
theorem take_no {S : St} {m : Msg} {acc : Bool} (h : takes m = false) : take S m acc = (S, msg0, false) := by unfold take; rw [h]; rfl
theorem Take_calls (S : St) (m : Msg) (acc : Bool) (r : St × Msg × Bool) (hr : take S m acc = r) (base p : Nat) (w : World) (hbase : base ≤ w.heap.size) (hS : IsLed base w p S) (hlen : S.L.length ≤ 200) (hE : S.E.length ≤ 1000000) :
    Calls Try.prog 16 #[.pointer (some ⟨p, 0, none⟩), msgV m, .bool acc] w fun e w' => e = .returned (.tuple #[msgV r.2.1, .bool r.2.2]) ∧ IsLed base w' p r.1 ∧ Fr [44, 95, 36] true base w w' := by
  cases ht : takes m with
  | true => exact Take_yes m acc ht S r hr base p w hbase hS hlen hE
  | false =>
    rw [take_no ht] at hr
    subst hr
    refine (Take_no m acc ht p w).mono ?_
    rintro e w' ⟨rfl, hb⟩
    exact ⟨rfl, hS.below hb, Fr.of_below hbase hb _ _⟩
/-- .. with its arguments and results laid open. -/
theorem Take_at (S : St) (kind inst turn : Int) (name : ByteArray) (att : Int) (ok acc : Bool) (S' : St) (kind' inst' turn' : Int) (name' : ByteArray) (att' : Int) (ok' r : Bool) (hr : take S ⟨kind, inst, turn, name, att, ok⟩ acc = (S', ⟨kind', inst', turn', name', att', ok'⟩, r)) (base p : Nat) (w : World) (hbase : base ≤ w.heap.size) (hS : IsLed base w p S) (hlen : S.L.length ≤ 200) (hE : S.E.length ≤ 1000000) :
    Calls Try.prog 16 #[.pointer (some ⟨p, 0, none⟩), .agg #[.int .i64 kind, .int .i64 inst, .int .i64 turn, .string name, .int .i64 att, .bool ok], .bool acc] w fun e w' => e = .returned (.tuple #[.agg #[.int .i64 kind', .int .i64 inst', .int .i64 turn', .string name', .int .i64 att', .bool ok'], .bool r]) ∧ IsLed base w' p S' ∧ Fr [44, 95, 36] true base w w' :=
  Take_calls S ⟨kind, inst, turn, name, att, ok⟩ acc _ hr base p w hbase hS hlen hE
set_option maxHeartbeats 2000000 in
set_option maxRecDepth 100000 in
theorem New_calls (w : World) : Calls Try.prog 15 #[] w fun e w' => e = .returned (.pointer (some ⟨w.heap.size, 0, none⟩)) ∧ w' = w.alloc (.cells #[.map none, .slice none 0 0] 44) := by
  go_enter Try.func15, Try.ntmps15
  go_wp2
  go_ret
  exact ⟨rfl, rfl⟩
theorem New_is (base : Nat) (w : World) (hb : base ≤ w.heap.size) : IsLed base (w.alloc (.cells #[.map none, .slice none 0 0] 44)) w.heap.size st0 :=
  ⟨[], fun _ => ent0, .map none, .slice none 0 0, ⟨hb, blk_new _ _, .inl ⟨rfl, rfl⟩, rfl, by simp, by simp, Kd.R_nil _ _ _ _ _⟩⟩
set_option maxHeartbeats 2000000 in
set_option maxRecDepth 100000 in
theorem Len_calls (S : St) (base p : Nat) (w : World) (hS : IsLed base w p S) : Calls Try.prog 19 #[.pointer (some ⟨p, 0, none⟩)] w fun e w' => e = .returned (.int .i64 S.L.length) ∧ w' = w := by
  obtain ⟨M, ent, mv, ev, h⟩ := hS
  have p0 : w.cell? ⟨p, 0, none⟩ = some mv := (blk_cell h.blk 0).trans rfl
  have hlen : ∀ ty, (Builtin.len_ #[42] ty #[mv]).run Try.prog w = .ok (.int .i64 M.length) w := fun ty => MapV.len h.map ty
  have hM : S.L.length = M.length := by rw [h.L]; simp
  have hM' := Aside0.mk hM
  clear h hM
  go_enter Try.func19, Try.ntmps19
  go_wp2
  go_ret
  exact ⟨by rw [hM'.out]; rfl, rfl⟩
set_option maxHeartbeats 2000000 in
set_option maxRecDepth 100000 in
theorem Effects_calls (S : St) (base p : Nat) (w : World) (hS : IsLed base w p S) (hE : S.E.length ≤ 1000000) : Calls Try.prog 17 #[.pointer (some ⟨p, 0, none⟩)] w fun e w' => ∃ v, e = .returned v ∧ Kd.R k36 36 w' w.heap.size (fun _ => True) v (S.E.map effS) ∧ Below w.heap.size w w' := by
  obtain ⟨M, ent, mv, ev, h⟩ := hS
  obtain ⟨A, c, rfl, hc, hC⟩ := Kd.R_reads h.E
  have p1 : w.cell? ⟨p, 1, none⟩ = some (.slice A (S.E.map effS).length c) := (blk_cell h.blk 1).trans rfl
  have hf : ledger_Effect.f (S.E.map effS) = some (S.E.map effS) := by
    unfold ledger_Effect.f
    simp only [Option.bind_some, List.length_nil, List.length_map, List.nil_append]
    rw [if_pos (by omega)]
  clear h
  generalize S.E.map effS = l at *
  have hC' := Aside0.mk hC
  have hc' := Aside0.mk hc
  have hf' := Aside0.mk hf
  clear hC hc hf
  go_enter Try.func17, Try.ntmps17
  go_wp2_with (first | (go_at_call 42; (with_reducible refine (ledger_Effect.calls A c l l _ hC'.out hc'.out hf'.out).mono ?_); rintro e w1 ⟨v, rfl, hR, hb⟩) | go_in)
  go_ret
  exact ⟨_, rfl, hR, hb⟩
set_option maxHeartbeats 2000000 in
set_option maxRecDepth 100000 in
theorem awake_calls (w : World) : Calls Try.prog 13 #[] w fun e w' => e = .returned (.bool true) ∧ Below w.heap.size w w' := by
  have hnew := New_is w.heap.size w (Nat.le_refl _)
  have htk : ∃ S1, take st0 ⟨1, 0, 1, ⟨#[]⟩, 0, false⟩ true = (S1, ⟨3, 0, 1, ⟨#[]⟩, 0, true⟩, true) := ⟨_, by rfl⟩
  obtain ⟨S1, htk⟩ := htk
  have hnew' := Aside0.mk hnew
  have htk' := Aside0.mk htk
  clear hnew htk
  go_enter Try.func13, Try.ntmps13
  go_wp2_with (first
    | (go_at_call 15; (with_reducible refine (New_calls _).mono ?_); rintro e w1 ⟨rfl, rfl⟩)
    | (go_at_call 16; (with_reducible refine (Take_at st0 1 0 1 ⟨#[]⟩ 0 false true _ _ _ _ _ _ _ _ htk'.out w.heap.size _ _ (by simp) hnew'.out (by decide) (by decide)).mono ?_); rintro e w2 ⟨rfl, hS2, hf2⟩)
    | go_in)
  go_ret
  exact ⟨rfl, below_alloc ((below_alloc (Below.refl _ _) _).trans hf2.below) _⟩
end Go.Proofs.Ytdglbiafpofeeaa.Led
