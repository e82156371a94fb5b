/- slices.Delete at lines: out of the shelf. -/
import Derived.Test.YtjghlomkimoeoaaLinkSend
import Derived.Shelf.SlicesE.Delete
namespace Go.Proofs.Ytjghlomkimoeoaa.Lnk
open Go.RowKit Go.Proofs.YtjghlomkimoeoaaW.PrintWords Go.Proofs.YtjghlomkimoeoaaW.PrintLast Go.Proofs.YtjghlomkimoeoaaW.PrintMore Go.Proofs.Ytjghlomkimoeoaa.PLinksPlay
open Amap Stp Go.Shelf
set_option linter.unusedVariables false
set_option linter.unusedSimpArgs false
def ren : Go.Shelf.Ren := ⟨fun | 45 => 75 | n => n, fun | 22 => 117 | 23 => 25 | n => n, fun n => n⟩
theorem lays : SlLaysE.n45 Try.prog ren where
  mixed := by kernel_rfl
  f45 := ⟨Try.f75.name, by decide +kernel, Try.func75.trans (congrArg some (by kernel_rfl))⟩
  t0 := Try.underlying0
  a0 := Try.isAgg0
  z0 := Try.sizeOf0
  v0 := Try.zeroValue0
  t3 := Try.underlying3
  a3 := Try.isAgg3
  z3 := Try.sizeOf3
  v3 := Try.zeroValue3
  t4 := Try.underlying4
  a4 := Try.isAgg4
  z4 := Try.sizeOf4
  v4 := Try.zeroValue4
  t22 := Try.underlying117
  a22 := Try.isAgg117
  z22 := Try.sizeOf117
  v22 := Try.zeroValue117
  a23 := Try.isAgg25
  z23 := Try.sizeOf25
abbrev Trip := Option Addr × Nat × Nat
def encT (x : Trip) : Value := .slice x.1 x.2.1 x.2.2
def unT : Value → Trip
  | .slice A n c => (A, n, c)
  | _ => (none, 0, 0)
theorem Delete_trip (blk off cap i : Nat) (d : Array Trip) (w : World) (hH : Go.Sort.Holds encT w blk off d) (hcap : d.size ≤ cap) (hm : cap ≤ 9223372036854775807) (hi : i < d.size) :
    Calls Try.prog 75 #[.slice (some ⟨blk, off, none⟩) d.size cap, .int .i64 i, .int .i64 (i + 1 : Nat)] w fun e w' => e = .returned (.slice (some ⟨blk, off, none⟩) (d.size - 1) cap) ∧ ∃ q, w' = Go.Sort.putRow encT (Go.Sort.ahead w q) blk off (d.toList.take i ++ d.toList.drop (i + 1) ++ [(none, 0, 0)]).toArray := by
  obtain ⟨i0, hi0, hz⟩ := Option.map_eq_some_iff.1 info25
  simp only [Prod.mk.injEq] at hz
  have h := AnyE.slices_Delete lays encT (fun _ => rfl) (none, 0, 0) Try.zeroValue25 i0 hi0 hz.2.1 blk off cap i (i + 1) d w hH hcap hm (by omega) (by omega)
  refine h.mono ?_
  rintro e w' ⟨rfl, q, rfl⟩
  rw [show i + 1 - i = 1 from by omega]
  exact ⟨rfl, q, rfl⟩
theorem take1 {α : Type} (l : List α) (j : Nat) : (l.drop j).take 1 = (l[j]?).toList := by
  induction l generalizing j with
  | nil => simp
  | cons x l ih =>
    cases j with
    | zero => simp
    | succ j => simpa using ih j
theorem putRow_at {α : Type} [Inhabited α] (enc : α → Value) {w : World} {g e : Nat} {cur : Array Value} {z : Nat × Nat} (h : w.heap[g]? = some (.cells cur e z)) (q off : Nat) (d : Array α) :
    (Go.Sort.putRow enc (Go.Sort.ahead w q) g off d).heap[g]? = some (.cells (Go.Sort.putCells enc off d cur) e z) := by
  simp [Go.Sort.putRow, Go.Sort.mapBlock, Go.Sort.ahead, Array.getElem?_modify, h, Go.Sort.onCells]
theorem putRow_off {α : Type} [Inhabited α] (enc : α → Value) (w : World) (g q off k : Nat) (d : Array α) (hk : k ≠ g) :
    (Go.Sort.putRow enc (Go.Sort.ahead w q) g off d).heap[k]? = w.heap[k]? := by
  simp [Go.Sort.putRow, Go.Sort.mapBlock, Go.Sort.ahead, Array.getElem?_modify, Ne.symm hk]
theorem kB_slice {w : World} {base : Nat} {ok : Nat → Prop} {x : List Int} {c : List Value} (h : kB.M w base ok x c) : ∃ A n cp, c = [.slice A n cp] := by
  obtain ⟨v, rfl, hR⟩ := h
  obtain ⟨A, cp, rfl⟩ := Kd.R_slice hR
  exact ⟨A, _, cp, rfl⟩
theorem putCells_row (off n cap : Nat) (cur : Array Value) (inner : List Value) (x : Trip) (hs : cur.size = off + cap) (hn : inner.length + 1 ≤ cap) (hin : ∀ u ∈ inner, encT (unT u) = u) :
    ((Go.Sort.putCells encT off (inner.map unT ++ [x]).toArray cur).toList.drop off).take inner.length = inner := by
  apply List.ext_getElem?
  intro j
  rw [List.getElem?_take]
  by_cases hj : j < inner.length
  · rw [if_pos hj, List.getElem?_drop, Array.getElem?_toList]
    unfold Go.Sort.putCells
    rw [Array.getElem?_mapIdx]
    have hlt : off + j < cur.size := by omega
    rw [Array.getElem?_eq_getElem hlt]
    simp only [Option.map_some]
    rw [if_pos (by simp; omega)]
    have hd : (inner.map unT ++ [x]).toArray[off + j - off]! = unT inner[j] := by
      rw [show off + j - off = j from by omega]
      simp [List.getElem!_eq_getElem?_getD, List.getElem?_append, hj]
    rw [hd, hin _ (List.getElem_mem hj), List.getElem?_eq_getElem hj]
  · rw [if_neg hj, List.getElem?_eq_none (by omega)]
theorem Delete_calls0 (v : Value) (xs : List (List Int)) (i : Nat) (base : Nat) (w : World) (ok : Nat → Prop) (hq : Kd.Q kB 25 w base ok v xs) (hi : i < xs.length) :
    Calls Try.prog 75 #[v, .int .i64 i, .int .i64 (i + 1 : Nat)] w fun e w' => ∃ v1, e = .returned v1 ∧ Kd.Q kB 25 w' base ok v1 (xs.eraseIdx i) ∧ w.grownBy w' v.ownBlock ∧ v1.ownBlock = v.ownBlock := by
  obtain ⟨h0, inner, hown, hr⟩ := hq
  obtain ⟨hlen, hc⟩ := hown
  have hsz : kB.sz = 1 := rfl
  rw [hsz] at hlen hc hr
  rcases hc with ⟨hz, _⟩ | ⟨g, off, cap, cur, rfl, hb, hh, hnc, hcm, hcs, ht⟩
  · omega
  rw [Nat.mul_one] at hlen hcs
  simp only [Nat.mul_one] at ht h0 hr ⊢
  have hin : ∀ u ∈ inner, encT (unT u) = u := by
    intro u hu
    obtain ⟨j, hj, rfl⟩ := List.getElem_of_mem hu
    have hjx : j < xs.length := by omega
    have := hr.2 j xs[j] (List.getElem?_eq_getElem hjx)
    rw [Nat.mul_one, take1, List.getElem?_eq_getElem hj] at this
    obtain ⟨A, n, cp, e⟩ := kB_slice this
    simp only [Option.toList_some, List.cons.injEq, and_true] at e
    rw [e]
    rfl
  obtain ⟨d, hd⟩ : ∃ d : Array Trip, d = (inner.map unT).toArray := ⟨_, rfl⟩
  have hds : d.size = xs.length := by rw [hd]; simp [hlen]
  have hH : Go.Sort.Holds encT w g off d := by
    intro j hj
    have hj' : j < inner.length := by omega
    refine ⟨?_, by simp [World.frozen?, hh]⟩
    rw [cell_of_row w g _ cur 25 (0, 0) hh]
    have h1 : inner[j]? = some inner[j] := List.getElem?_eq_getElem hj'
    have h2 : inner[j]? = cur[off + j]? := by
      conv => lhs; rw [← ht]
      rw [List.getElem?_take, if_pos (by omega), List.getElem?_drop, Array.getElem?_toList]
    rw [← h2, h1, hd]
    simp [hj', hin _ (List.getElem_mem hj')]
  simp only [maxLen] at hcm
  have hcall := Delete_trip g off cap i d w hH (by omega) (by omega) (by omega)
  rw [hds] at hcall
  refine hcall.mono ?_
  rintro e w' ⟨rfl, q, rfl⟩
  have hdl : d.toList.take i ++ d.toList.drop (i + 1) ++ [((none, 0, 0) : Trip)] = (inner.eraseIdx i).map unT ++ [(none, 0, 0)] := by
    rw [hd, List.eraseIdx_eq_take_drop_succ]
    simp [List.map_take, List.map_drop]
  rw [hdl]
  have hel : (inner.eraseIdx i).length = xs.length - 1 := by rw [List.length_eraseIdx]; rw [if_pos (by omega)]; omega
  have hexl : (xs.eraseIdx i).length = xs.length - 1 := by rw [List.length_eraseIdx]; rw [if_pos hi]
  refine ⟨_, rfl, ⟨h0, inner.eraseIdx i, ⟨by rw [hsz, Nat.mul_one, hel, hexl], .inr ⟨g, off, cap, _, ?_, hb, putRow_at encT hh q off _, by omega, by simp only [maxLen]; omega, ?_, ?_⟩⟩, ?_⟩, ⟨rfl, rfl, rfl, ?_, ?_⟩, rfl⟩
  · rw [hsz, hexl, Nat.mul_one]
  · rw [hsz, Nat.mul_one]; simp [Go.Sort.putCells, hcs]
  · rw [hsz, Nat.mul_one, Nat.mul_one, hexl, ← hel]
    exact putCells_row off xs.length cap cur (inner.eraseIdx i) _ hcs (by omega) (fun u hu => hin u (List.mem_of_mem_eraseIdx hu))
  · refine ⟨by rw [hsz, hel, hexl, Nat.mul_one], fun j p hp => ?_⟩
    rw [hsz, Nat.mul_one, take1, List.getElem?_eraseIdx]
    rw [List.getElem?_eraseIdx] at hp
    have hk : ∀ (j' : Nat) (p' : List Int), xs[j']? = some p' → kB.M (Go.Sort.putRow encT (Go.Sort.ahead w q) g off ((inner.eraseIdx i).map unT ++ [(none, 0, 0)]).toArray) base (fun k => ok k ∧ some k ≠ (Value.slice (some ⟨g, off, none⟩) (xs.length - 1) cap).ownBlock) p' (inner[j']?).toList := by
      intro j' p' hp'
      have := hr.2 j' p' hp'
      rw [Nat.mul_one, take1] at this
      exact Kd.M_move kB (fun k hk => putRow_off encT w g q off k _ (fun e => hk.2 (by rw [e]; rfl))) this
    split at hp
    · rename_i h
      rw [if_pos h]
      exact hk j p hp
    · rename_i h
      rw [if_neg h]
      exact hk (j + 1) p hp
  · simp [Go.Sort.ahead]
  · intro k hk hne
    exact putRow_off encT w g q off k _ (fun e => hne (by rw [e]; rfl))
theorem Delete_calls (v : Value) (xs : List (List Int)) (i : Nat) (base : Nat) (w : World) (ok : Nat → Prop) (hq : Kd.Q kB 25 w base ok v xs) (hi : i < xs.length) :
    Calls Try.prog 75 #[v, .int .i64 (i : Int), .int .i64 ((i : Int) + 1)] w fun e w' => ∃ v1, e = .returned v1 ∧ Kd.Q kB 25 w' base ok v1 (xs.eraseIdx i) ∧ w.grownBy w' v.ownBlock ∧ v1.ownBlock = v.ownBlock := Delete_calls0 v xs i base w ok hq hi
end Go.Proofs.Ytjghlomkimoeoaa.Lnk
