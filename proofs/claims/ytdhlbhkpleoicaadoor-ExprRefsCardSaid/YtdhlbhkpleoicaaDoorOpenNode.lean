/- A node's datum, opened: a struct nested in itself. -/
import Derived.Test.YtdhlbhkpleoicaaDoorOpen
import Derived.Test.YtdhlbhkpleoicaaDoorExTheirs
namespace Go.Proofs.YtdhlbhkpleoicaaDoor.Exp
open Go.RowKit Go.ChangeShapes Go.WideShapes Go.Deep Go.Proofs.YtdhlbhkpleoicaaDoorW.PrintWords Go.Proofs.YtdhlbhkpleoicaaDoorW.PrintLast Go.Proofs.YtdhlbhkpleoicaaDoorW.PrintMore Go.Proofs.YtdhlbhkpleoicaaDoor.PExprEvals
set_option linter.unusedVariables false
set_option linter.unusedSimpArgs false
section
variable {P : Program} {T E : TypeId} {H : Type} {enc : TypeId × Value → H} {W : World} {base : Nat} {spare : Nat → Bool} {held : Bool}
/-- A slice opened, with the fuel of its elements. -/
theorem slice_fuel {n : Nat} {cs : List Value} {x : DataW H × List MemPlace} (ht : P.underlying T = some (.slice E)) (h : DataW.trod enc P W base spare held n T cs = some x) :
    (cs = [.slice none 0 0]) ∨ ∃ (a : Addr) (len cap : Nat) (m : Nat) (elems rest : List (DataW H × List MemPlace)), m < n ∧ cs = [.slice (some a) len cap] ∧ len ≤ cap ∧ cap ≤ maxLen ∧ x.1 = .slice (elems.map (·.1)) (rest.map (·.1)) ∧ elems.length = len ∧
      ∀ i, i < len → ∃ cs' y, W.cells? base (a.add (i * P.cellsOf E)) (P.cellsOf E) = some cs' ∧ DataW.trod enc P W base spare held m E cs' = some y ∧ elems[i]? = some y := by
  rcases DataW.trod_slice ht h with h0 | ⟨a, len, cap, elems, rest, m, hf, rfl, rfl, hb, hl, hm, hlen, hel, hsp, hns⟩
  · exact .inl h0.1
  refine .inr ⟨a, len, cap, m, elems, rest, by omega, rfl, hl, hm, rfl, hlen, fun i hi => ?_⟩
  have h1 := hel i hi
  rw [List.getElem?_eq_getElem (by omega)] at h1
  obtain ⟨cs', h2, h3⟩ := Option.bind_eq_some_iff.1 h1
  exact ⟨cs', _, h2, h3, List.getElem?_eq_getElem (by omega)⟩
end
set_option maxRecDepth 100000 in
theorem opens_node : ∀ (N : Nat) {H : Type} {enc : TypeId × Value → H} {W : World} {base : Nat} {spare : Nat → Bool} {held : Bool} {n : Nat} {cs : List Value} {x : DataW H × List MemPlace}, n < N →
    DataW.trod enc Tryd.prog W base spare held n 24 cs = some x → Opn.Light Tryd.prog 24 x.1 → ∃ p, k24.K W p cs
  | 0, _, _, _, _, _, _, _, _, _, hn, _, _ => by omega
  | N + 1, H, enc, W, base, spare, held, n, cs, x, hn, h, hl => by
    obtain ⟨xs, m, hm, rfl, hlen, hxl, hf⟩ := DataW.trod_struct Tryd.underlying24 h
    have hlen4 : cs.length = 4 := hlen.trans (by kernel_rfl)
    have hl' : (DataW.weightsEach Tryd.prog ([3, 2, 9, 22] : List TypeId) (xs.map (·.1))).all (· ≤ reachBytes) = true := by
      have := hl
      simp only [Opn.Light, DataW.weights, Tryd.underlying24] at this
      exact this
    have hf0 : DataW.trod enc Tryd.prog W base spare held m 3 ((cs.drop 0).take 1) = xs[0]? := hf 0 _ rfl
    have hf1 : DataW.trod enc Tryd.prog W base spare held m 2 ((cs.drop 1).take 1) = xs[1]? := hf 1 _ rfl
    have hf2 : DataW.trod enc Tryd.prog W base spare held m 9 ((cs.drop 2).take 1) = xs[2]? := hf 2 _ rfl
    have hf3 : DataW.trod enc Tryd.prog W base spare held m 22 ((cs.drop 3).take 1) = xs[3]? := hf 3 _ rfl
    have hx4 : xs.length = 4 := hxl
    rw [List.getElem?_eq_getElem (by omega)] at hf0 hf1 hf2 hf3
    obtain ⟨a, b, c, d, rfl⟩ : ∃ a b c d, cs = [a, b, c, d] := by
      match cs, hlen4 with
      | [a, b, c, d], _ => exact ⟨a, b, c, d, rfl⟩
    simp only [List.drop_zero, List.drop_succ_cons, List.take_succ_cons, List.take_zero] at hf0 hf1 hf2 hf3
    obtain ⟨i0, e0, _, _⟩ := DataW.trod_int Tryd.underlying3 hf0
    obtain ⟨i1, e1, _, _⟩ := DataW.trod_int Tryd.underlying2 hf1
    obtain ⟨s2, e2, _, _⟩ := DataW.trod_string Tryd.underlying9 hf2
    have hl3 : Opn.Light Tryd.prog 22 xs[3].1 := Opn.light_each hl' 3 22 _ rfl (by rw [List.getElem?_map, List.getElem?_eq_getElem (by omega)]; rfl)
    simp only [List.cons.injEq, and_true] at e0 e1 e2
    subst e0 e1 e2
    rcases slice_fuel Tryd.underlying22 hf3 with e3 | ⟨ad, ln, cp, m2, elems, rest, hm2, e3, hlc, hcm, hx3, hel, hi⟩
    · simp only [List.cons.injEq, and_true] at e3
      subst e3
      exact ⟨⟨i0, i1, s2, []⟩, k24_mk W ⟨i0, i1, s2, []⟩ (A3 := none) (c3 := 0) (Nat.le_refl _) ⟨rfl, by simp, fun h0 => absurd h0 (by simp)⟩⟩
    · simp only [List.cons.injEq, and_true] at e3
      subst e3
      have hw := hl3
      rw [hx3] at hw
      simp only [Opn.Light, DataW.weights, Tryd.underlying22, List.all_cons, List.all_append, Bool.and_eq_true, decide_eq_true_eq] at hw
      obtain ⟨_, hle, _⟩ := hw
      have hsz : Tryd.prog.cellsOf 24 = 4 := by kernel_rfl
      have key : ∀ i, i < ln → ∃ p : S24, ∃ c, c.length = k24.sz ∧ k24.K W p c ∧ ∀ j u, c[j]? = some u → W.cell? (ad.add (i * k24.sz + j)) = some u := by
        intro i hlt
        obtain ⟨cs', y, hcs, ht, hy⟩ := hi i hlt
        obtain ⟨p, hK⟩ := opens_node N (by omega) ht (Opn.light_all hle _ (List.mem_map.2 ⟨y, List.mem_of_getElem? hy, rfl⟩))
        obtain ⟨_, _, hat⟩ := World.cells?_some hcs
        have hlen := k24.K_len hK
        rw [hsz] at hat
        refine ⟨p, cs', hlen, hK, fun j u hj => ?_⟩
        have hj3 : j < 4 := by
          have := (List.getElem?_eq_some_iff.1 hj).1
          rw [hlen] at this
          exact this
        show W.cell? (ad.add (i * 4 + j)) = some u
        rw [← Go.Deep.add_add, hat j hj3, hj]
      obtain ⟨g, hg, hgp⟩ := Opn.list_of ln key
      have hln : ln ≤ 9223372036854775807 := by unfold maxLen at hcm; omega
      have hC : k24.C W (some ad) g.length g := ⟨rfl, by rw [hg]; exact hln, fun _ => ⟨ad, rfl, fun j p hj => hgp j p hj⟩⟩
      have := k24_mk W ⟨i0, i1, s2, g⟩ (A3 := some ad) (c3 := cp) (by simp only; rw [hg]; exact hlc) hC
      simp only [hg] at this
      exact ⟨_, this⟩
theorem opens_24 : Opn.Opens Tryd.prog 24 k24 (fun _ => True) := by
  intro H enc W base spare held n cs x h hl
  obtain ⟨p, hp⟩ := opens_node (n + 1) (Nat.lt_succ_self n) h hl
  exact ⟨p, hp, trivial⟩
end Go.Proofs.YtdhlbhkpleoicaaDoor.Exp
