/- The timers' map as the shelf's iterators see it. -/
import Derived.Test.YtdfghndcengkaaaTmTake
import Derived.Shelf.SlIter.AllValues
import Derived.Shelf.SlIterI.Collect
namespace Go.Proofs.Ytdfghndcengkaaa.Tmr
open Go.RowKit Go.Proofs.YtdfghndcengkaaaW.PrintWords Go.Proofs.YtdfghndcengkaaaW.PrintLast Go.Proofs.YtdfghndcengkaaaW.PrintMore Go.Proofs.Ytdfghndcengkaaa.PTimersPlay
open Amap Frm Go.Shelf
set_option linter.unusedVariables false
set_option linter.unusedSimpArgs false
noncomputable def Rv : Value → Option (DataW Unit × List MemPlace) := plainElem Try.prog 2
def lk (x : ByteArray) : Lit := .string x.data.toList
theorem map_owns {w : World} {b : Nat} {T : Tms} (h : MapIs ek ev domS w b T) (hv : ∀ q ∈ T, domI q.2) (hl : T.length ≤ 200) : ∃ D0, w.ownsMap Try.prog 9 Rv b T.length D0 ∧ Go.Maps.size D0 = T.length ∧ ∀ ps, AnyY.AllOf D0 ps → ps.length = T.length ∧ (∀ x ∈ ps.map (·.2), ∃ q ∈ T, q.2 = x) ∧ (∀ q ∈ T, q.2 ∈ ps.map (·.2)) := by
  have hM : (200 : Nat) ≤ maxLen := by decide
  obtain ⟨es, clock, hb, he, hd, hn, hs⟩ := h
  have hlen : es.toList.length = T.length := by have := congrArg List.length he; simpa using this
  have hdk := fun (x : MapEntry) (hx : x ∈ es.toList) => dec_key he hx
  have hrd : ∀ x ∈ es.toList, Go.WideElems.rd Try.prog 9 Rv x = some (lk (dec x).1, .lit (.int .i64 (dec x).2)) := fun x hx => by
    obtain ⟨h1, h2, h3⟩ := hdk x hx
    have h4 : Rv (.int .i64 (dec x).2) = some (.lit (.int .i64 (dec x).2), []) := plainElem_int Try.underlying2 (hv _ h1)
    unfold Go.WideElems.rd
    rw [h2, h3, Go.WideMaps.keyOf_string_mk Try.underlying9 (domS_max (hd _ h1)), h4]
    rfl
  have hrg : ∀ x ∈ es.toList, Go.WideElems.rg Try.prog 9 Rv x = (lk (dec x).1, .lit (.int .i64 (dec x).2)) := fun x hx => Go.WideElems.rg_of (hrd x hx)
  have hF : Go.WideElems.Fit Try.prog 9 Rv es clock := ⟨by rw [← Array.length_toList, hlen]; omega, hs, fun x hx => ⟨_, hrd x hx⟩⟩
  have hkl : ∀ x ∈ es.toList, WideAt.IsKeyLit (lk (dec x).1) := fun x hx => by
    obtain ⟨h1, h2, h3⟩ := hdk x hx
    exact encS.law.key (Go.WideMaps.keyOf_string_mk Try.underlying9 (domS_max (hd _ h1)))
  have hhas : ∀ y : List UInt8, Go.Maps.has (DataW.map ((es.toList.map (Go.WideElems.rg Try.prog 9 Rv)).foldr DataW.insert [])) (.string y) = true ↔ ∃ x ∈ es.toList, (dec x).1.data.toList = y := fun y => by
    constructor
    · intro hh
      obtain ⟨p, hp, hpk⟩ := List.any_eq_true.1 hh
      obtain ⟨x, hx, rfl⟩ := List.mem_map.1 (mem_sorted.1 hp)
      have h5 := WideAt.sameKey_eq hpk
      rw [hrg x hx] at h5
      injection h5 with h5
      exact ⟨x, hx, h5⟩
    · rintro ⟨x, hx, rfl⟩
      refine List.any_eq_true.2 ⟨_, mem_sorted.2 (List.mem_map.2 ⟨x, hx, rfl⟩), ?_⟩
      rw [hrg x hx]
      exact WideAt.sameKey_self (hkl x hx)
  have hat : ∀ x ∈ es.toList, ∀ z, (DataW.map ((es.toList.map (Go.WideElems.rg Try.prog 9 Rv)).foldr DataW.insert [])).atKey (lk (dec x).1) z = .lit (.int .i64 (dec x).2) := fun x hx z => by
    have h6 := (Go.WideShapes.atKey_sorted (es.toList.map (Go.WideElems.rg Try.prog 9 Rv)) (Go.Maps.fit_rising encS.law hF) (lk (dec x).1) (hkl x hx)).2 (Go.WideElems.rg Try.prog 9 Rv x) (List.mem_map.2 ⟨x, hx, rfl⟩) (by rw [hrg x hx]) z
    rw [h6, hrg x hx]
  refine ⟨_, ⟨es, clock, hb, hF, by rw [← Array.length_toList, hlen]; exact Nat.le_refl _, rfl⟩, ?_, ?_⟩
  · show (List.foldr DataW.insert [] (es.toList.map (Go.WideElems.rg Try.prog 9 Rv))).length = _
    rw [Go.length_sorted, List.length_map, hlen]
  · rintro ps ⟨hp1, hp2, hp3⟩
    refine ⟨?_, ?_, ?_⟩
    · have h7 := hp1.length_eq
      rw [List.length_map] at h7
      rw [h7]
      show ((List.foldr DataW.insert [] (es.toList.map (Go.WideElems.rg Try.prog 9 Rv))).map _).length = _
      rw [List.length_map, Go.length_sorted, List.length_map, hlen]
    · intro x hx
      obtain ⟨p, hp, rfl⟩ := List.mem_map.1 hx
      obtain ⟨y, hy, e⟩ := (hhas p.1).1 ((hp2 p.1).1 (List.mem_map.2 ⟨p, hp, rfl⟩))
      have h8 := hp3 p hp (.nil)
      have h9 := hat y hy .nil
      rw [← e] at h8
      unfold lk at h9
      rw [h9] at h8
      injection h8 with h8
      injection h8 with _ h8
      exact ⟨dec y, (hdk y hy).1, h8⟩
    · intro q hq
      rw [← dec_all he] at hq
      obtain ⟨y, hy, rfl⟩ := List.mem_map.1 hq
      obtain ⟨p, hp, e⟩ := List.mem_map.1 ((hp2 _).2 ((hhas _).2 ⟨y, hy, rfl⟩))
      have h8 := hp3 p hp (.nil)
      have h9 := hat y hy .nil
      rw [e] at h8
      unfold lk at h9
      rw [h9] at h8
      injection h8 with h8
      injection h8 with _ h8
      exact List.mem_map.2 ⟨p, hp, h8.symm⟩
end Go.Proofs.Ytdfghndcengkaaa.Tmr
