/- An argument that is a slice of items: a list of them, its cells, and what its bulk tells. -/
import Derived.Test.YtbfmndikbbfcdaaPPackItemsx7
import Derived.Test.YtbfmndikbbfcdaaBulk
import Derived.Deep.Slices
import Derived.Deep.Fields
import Derived.ChangeSame
namespace Go.Proofs.Ytbfmndikbbfcdaa.RowItems
open Go.RowKit Go.ChangeShapes Go.WideShapes Go.Deep Go.Proofs.Ytbfmndikbbfcdaa.PPackItems Go.Proofs.YtbfmndikbbfcdaaW.PrintWords Go.Proofs.YtbfmndikbbfcdaaW.PrintLast

def weight (l : List S64) : Nat := (l.map fun x => x.f2.size + 4).sum

variable {H : Type} {enc : TypeId × Value → H} {W : World} {base : Nat} {spare : Nat → Bool} {held : Bool}

theorem sum_le (D : Nat → DataW H) (g : Nat → Nat) : ∀ L : List Nat, (∀ i ∈ L, g i ≤ Rows.uptoBulk (D i)) → (L.map g).sum ≤ Rows.uptoBulkAll (L.map D)
  | [], _ => by simp [Rows.uptoBulkAll]
  | i :: L, h => by
    have h1 := h i (List.mem_cons_self ..)
    have h2 := sum_le D g L (fun j hj => h j (List.mem_cons_of_mem _ hj))
    simp only [List.map_cons, List.sum_cons, Rows.uptoBulkAll]
    omega

theorem item_open {n : Nat} {cs : List Value} {x : DataW H × List MemPlace} (h : DataW.trod enc Try.prog W base spare held n 64 cs = some x) :
    ∃ p : S64, cs = [.bool p.f0, .int .i64 p.f1, .string p.f2] ∧ (Lit.int .i64 p.f1).wf = true ∧ p.f2.size + 4 ≤ Rows.uptoBulk x.1 := by
  obtain ⟨ys, m, _, rfl, hlen, hyl, hf⟩ := DataW.trod_struct Try.underlying64 h
  rw [show Try.prog.cellsOf 64 = 3 from by kernel_rfl] at hlen
  have h0 : DataW.trod enc Try.prog W base spare held m 4 ((cs.drop 0).take (Try.prog.cellsOf 4)) = ys[0]? := hf 0 _ rfl
  have h1 : DataW.trod enc Try.prog W base spare held m 2 ((cs.drop 1).take (Try.prog.cellsOf 2)) = ys[1]? := hf 1 _ rfl
  have h2 : DataW.trod enc Try.prog W base spare held m 9 ((cs.drop 2).take (Try.prog.cellsOf 9)) = ys[2]? := hf 2 _ rfl
  rw [show Try.prog.cellsOf 4 = 1 from by kernel_rfl] at h0
  rw [show Try.prog.cellsOf 2 = 1 from by kernel_rfl] at h1
  rw [show Try.prog.cellsOf 9 = 1 from by kernel_rfl] at h2
  match cs, hlen, ys, hyl with
  | [c0, c1, c2], _, [y0, y1, y2], _ =>
    obtain ⟨b, e0, x0⟩ := DataW.trod_bool Try.underlying4 (h0.trans (show _ = some y0 from rfl))
    obtain ⟨k, e1, x1, hw⟩ := DataW.trod_int Try.underlying2 (h1.trans (show _ = some y1 from rfl))
    obtain ⟨s, e2, x2, hs⟩ := DataW.trod_string Try.underlying9 (h2.trans (show _ = some y2 from rfl))
    simp only [List.drop_zero, List.take_succ_cons, List.take_zero, List.drop_succ_cons, List.cons.injEq, and_true] at e0 e1 e2
    subst e0 e1 e2 x0 x1 x2
    refine ⟨⟨b, k, s⟩, rfl, hw, ?_⟩
    have hd : s.data.toList.length = s.size := by rw [Array.length_toList]; rfl
    simp only [List.map_cons, List.map_nil, Rows.uptoBulk, Rows.uptoBulkAll]
    omega

theorem items_open {a : Option Addr} {len cap : Nat} {d : DataW H} {ps : List MemPlace} (h : DataW.Trod enc Try.prog W base spare held 46 (.slice a len cap) d ps) :
    ∃ l : List S64, l.length = len ∧ Kd.C k64 W a l.length l ∧ l.length ≤ cap ∧ (∀ x ∈ l, (Lit.int .i64 x.f1).wf = true) ∧ weight l ≤ Rows.uptoBulk d := by
  obtain ⟨fuel, hf⟩ := h
  rcases open_slice Try.underlying46 hf with ⟨hcs, hx⟩ | ⟨ad, ln, cp, m, n, D, Pl, hcs, hb, hl, hm, hmm, hx, hi⟩
  · simp [Value.cells] at hcs
    obtain ⟨rfl, rfl, rfl⟩ := hcs
    exact ⟨[], rfl, ⟨rfl, by simp, fun h0 => absurd h0 (by simp)⟩, Nat.le_refl _, (fun x hx => by cases hx), by simp [weight]⟩
  · simp [Value.cells] at hcs
    obtain ⟨rfl, rfl, rfl⟩ := hcs
    obtain ⟨hx, _⟩ := Prod.mk.inj hx
    subst hx
    rw [show Try.prog.cellsOf 64 = 3 from by kernel_rfl] at hi
    have hml : len ≤ m := by rw [hmm]; split <;> omega
    have key : ∀ i, i < len → ∃ p : S64, (∀ j u, [Value.bool p.f0, .int .i64 p.f1, .string p.f2][j]? = some u → W.cell? (ad.add (i * 3 + j)) = some u) ∧ (Lit.int .i64 p.f1).wf = true ∧ p.f2.size + 4 ≤ Rows.uptoBulk (D i) := by
      intro i hlt
      obtain ⟨cs', hc, ht⟩ := hi i (by omega)
      obtain ⟨p, rfl, hw, hbk⟩ := item_open ht
      obtain ⟨_, _, hat⟩ := World.cells?_some hc
      refine ⟨p, fun j u hj => ?_, hw, hbk⟩
      have hj3 : j < 3 := by
        have := (List.getElem?_eq_some_iff.1 hj).1
        simpa using this
      rw [← Go.Deep.add_add, hat j hj3, hj]
    have hex : ∃ g : Nat → S64, ∀ i, i < len → (∀ j u, [Value.bool (g i).f0, .int .i64 (g i).f1, .string (g i).f2][j]? = some u → W.cell? (ad.add (i * 3 + j)) = some u) ∧ (Lit.int .i64 (g i).f1).wf = true ∧ (g i).f2.size + 4 ≤ Rows.uptoBulk (D i) := by
      refine ⟨fun i => if h : i < len then Classical.choose (key i h) else z64, fun i h => ?_⟩
      simp only [dif_pos h]
      exact Classical.choose_spec (key i h)
    obtain ⟨g, hg⟩ := hex
    refine ⟨(List.range len).map g, by simp, ⟨rfl, ?_, fun _ => ⟨ad, rfl, fun j p hj => ?_⟩⟩, by simpa using hl, ?_, ?_⟩
    · simp only [List.length_map, List.length_range]
      unfold maxLen at hm
      omega
    · obtain ⟨hjl, hjp⟩ := List.getElem?_eq_some_iff.1 hj
      simp only [List.length_map, List.length_range] at hjl
      simp only [List.getElem_map, List.getElem_range] at hjp
      subst hjp
      exact ⟨_, rfl, k64_mk W (g j), (hg j hjl).1⟩
    · intro x hx
      obtain ⟨i, hi, rfl⟩ := List.mem_map.1 hx
      exact (hg i (List.mem_range.1 hi)).2.1
    · have h1 := sum_le D (fun i => (g i).f2.size + 4) (List.range len) (fun i hi => (hg i (List.mem_range.1 hi)).2.2)
      unfold weight
      rw [List.map_map]
      simp only [Rows.uptoBulk]
      have e : ((List.range len).map ((fun x : S64 => x.f2.size + 4) ∘ g)) = (List.range len).map fun i => (g i).f2.size + 4 := rfl
      rw [e]
      omega
end Go.Proofs.Ytbfmndikbbfcdaa.RowItems
