/- The segments' numbers, in order. -/
import Derived.Test.YtnplnelhodnonaaDskSort
namespace Go.Proofs.Ytnplnelhodnonaa.Dsk
open Go.RowKit Go.Proofs.YtnplnelhodnonaaW.PrintWords Go.Proofs.YtnplnelhodnonaaW.PrintLast Go.Proofs.YtnplnelhodnonaaW.PrintMore Go.Proofs.Ytnplnelhodnonaa.PDiskNil
open Amap Frm Go.Shelf Go.Maps
set_option linter.unusedVariables false
set_option linter.unusedSimpArgs false
def Rn : Value → Option (DataW Unit × List MemPlace) := fun _ => some (.nil, [])
def keyZ : Value → Int
  | .int _ a => a
  | _ => 0
theorem map_owns {w : World} {m : Nat} {l : List (Int × Nat)} (h : MapIs ek ep domI w m l) (hl : l.length ≤ maxLen) : ∃ D0, w.ownsMap Try.prog 3 Rn m l.length D0 ∧ (intKeys D0).Perm (l.map (·.1)) ∧ Maps.size D0 = l.length := by
  obtain ⟨es, clock, hb, he, hd, hn, hs⟩ := h
  have hlen : es.toList.length = l.length := by have := congrArg List.length he; simpa using this
  have hkey : ∀ x ∈ es.toList, ∃ p ∈ l, x.key = ek p.1 := fun x hx => by
    have : (x.key, x.val) ∈ l.map (fun p => (ek p.1, ep p.2)) := by rw [← he]; exact List.mem_map.2 ⟨x, hx, rfl⟩
    obtain ⟨p, hp, e⟩ := List.mem_map.1 this
    exact ⟨p, hp, (congrArg Prod.fst e).symm⟩
  have hrd : ∀ x ∈ es.toList, Go.WideElems.rd Try.prog 3 Rn x = some (.int .i64 (keyZ x.key), .nil) := fun x hx => by
    obtain ⟨p, hp, e⟩ := hkey x hx
    unfold Go.WideElems.rd
    rw [e, show ek p.1 = .int .i64 p.1 from rfl, Go.Maps.keyOf_int_mk Try.underlying3 (hd p hp)]
    rfl
  refine ⟨_, ⟨es, clock, hb, ⟨by rw [← Array.length_toList, hlen]; exact hl, hs, fun x hx => ⟨_, hrd x hx⟩⟩, by rw [← Array.length_toList, hlen]; exact Nat.le_refl _, rfl⟩, ?_, ?_⟩
  · show ((List.foldr DataW.insert [] (es.toList.map (Go.WideElems.rg Try.prog 3 Rn))).map fun p : Lit × DataW Unit => _root_.Go.intOf p.1).Perm _
    refine ((Go.WideShapes.sorted_perm _).map _).trans ?_
    rw [List.map_map]
    have e1 : es.toList.map ((fun p : Lit × DataW Unit => _root_.Go.intOf p.1) ∘ Go.WideElems.rg Try.prog 3 Rn) = (es.toList.map (fun e => (e.key, e.val))).map (fun q => keyZ q.1) := by
      rw [List.map_map]
      refine List.map_congr_left fun x hx => ?_
      rw [Function.comp_apply, Function.comp_apply, Go.WideElems.rg_of (hrd x hx)]
      rfl
    rw [e1, he, List.map_map]
    exact List.Perm.of_eq (List.map_congr_left fun p _ => rfl)
  · show (List.foldr DataW.insert [] (es.toList.map (Go.WideElems.rg Try.prog 3 Rn))).length = _
    rw [length_sorted, List.length_map, hlen]
theorem sortsA (m : Nat) : AnyZI.SortsIn Try.prog renS Fence.wide m :=
  ⟨fun blk off cap ss W hH hblk hsz => callsIn_wide.2 (AnyM.slices_Sort_int layM blk off cap ss W hH hblk hsz),
   fun p cap W => callsIn_wide.2 (AnyM.slices_Sort_int_none layM p cap W)⟩
set_option maxHeartbeats 4000000 in
set_option maxRecDepth 100000 in
theorem Segments (p m : Nat) (c1 c2 c3 c4 : Value) (l : List (Int × Nat)) (w : World) (hp : w.heap[p]? = some (.cells #[.map (some m), c1, c2, c3, c4] 79 (0, 0))) (hm : MapIs ek ep domI w m l) (hl : l.length ≤ 100000) :
    Calls Try.prog 16 #[ep p] w fun e w' => ∃ v : Value, e = .returned v ∧ w'.ownsRow w.heap.size 3 1 v l.length (((l.map (·.1)).mergeSort (fun x y => decide (x ≤ y))).map encZ) ∧ (v = .slice none 0 0 ↔ l = []) ∧ Below w.heap.size w w' := by
  obtain ⟨D0, hown, hperm, hsz⟩ := map_owns hm (by have : (100000 : Nat) ≤ maxLen := by decide
                                                   omega)
  have hmp : w.cell? ⟨p, 0, none⟩ = some (.map (some m)) := (blk_cell hp 0).trans rfl
  have hml := hm.lt
  refine (callsIn_wide (n := 6)).1 ?_
  have hseq : SeqGives Fence.wide 2 Try.prog 67 #[.pointer (some ⟨w.heap.size, 0, none⟩)] encZ (fun ss => ss.Perm (intKeys D0)) (Maps.size D0) (w.alloc (.cells #[.map (some m)] 77)) :=
    AnyZI.keys_gives (ρ := renK) { layK with } Fence.wide _ trivial rfl (by omega) w.heap.size m l.length D0 _ (by simp) (by simp) (by
      obtain ⟨es, clock, hb, Ft, hs, hD⟩ := hown
      exact ⟨es, clock, (Below.heap_alloc _ _ m hml).trans hb, Ft, hs, hD⟩)
  have cK : ∀ mb W, CallsIn Fence.wide 5 Try.prog 48 #[.map mb] W fun e w' => e = .returned (.func (.func 67) #[] #[.pointer (some ⟨W.heap.size, 0, none⟩)]) ∧ w' = W.alloc (.cells #[.map mb] 77) := fun mb W => AnyZI.keys_in layK Fence.wide 5 trivial rfl mb W
  have hmx : Maps.size D0 ≤ maxLen := by
    have : (100000 : Nat) ≤ maxLen := by decide
    omega
  have cS := AnyZI.sorted_in layS Fence.wide 5 trivial trivial trivial trivial rfl (by omega) (sortsA _) (enters_of Try.func66 (by kernel_rfl) rfl) 67 #[.pointer (some ⟨w.heap.size, 0, none⟩)] trivial (enters_of Try.func67 (by kernel_rfl) rfl) _ _ hmx (by omega) _ hseq
  change CallsIn _ _ Try.prog 47 _ _ _ at cS
  have hfK : Fence.wide.fn 48 := trivial
  have hfS : Fence.wide.fn 47 := trivial
  have hperm' := Aside0.mk hperm
  have hl0 : Aside0 (∀ ss : List Int, ss.Perm (intKeys D0) → ss.length = l.length ∧ ss.mergeSort (fun x y => decide (x ≤ y)) = (l.map (·.1)).mergeSort (fun x y => decide (x ≤ y)) ∧ (ss = [] ↔ l = [])) := ⟨fun ss hS => by
    have h1 := hS.trans hperm
    have h2 := h1.length_eq
    rw [List.length_map] at h2
    refine ⟨h2, mergeSort_of_perm_i h1, ?_⟩
    rw [← List.length_eq_zero_iff, ← List.length_eq_zero_iff, h2]⟩
  clear hown hperm hsz hseq hmx hm hp
  unfold ep
  refine callsIn_of_wp Try.func16 rfl trivial ?_ rfl
  simp only [Try.ntmps16, List.size_toArray, List.length_cons, List.length_nil, Nat.reduceAdd, Nat.reduceSub, Array.replicate_succ, Array.replicate_zero, List.push_toArray, List.append_toArray, List.nil_append, List.cons_append]
  gi_wp2_with (first
    | (gi_at_call 48; refine (cK _ _).mono ?_; rintro e w' ⟨rfl, rfl⟩)
    | (gi_at_call 47; refine cS.mono ?_; rintro e w' ⟨v, ss, rfl, hS, hrow, hnil, hb⟩))
  go_ret
  obtain ⟨a1, a2, a3⟩ := hl0.out ss hS
  rw [a1, a2] at hrow
  exact ⟨v, rfl, ownsRow_base_a hrow (by simp), hnil.trans a3, ((Below.refl _ w).alloc (Nat.le_refl _) _).trans (hb.mono (by simp))⟩
end Go.Proofs.Ytnplnelhodnonaa.Dsk
