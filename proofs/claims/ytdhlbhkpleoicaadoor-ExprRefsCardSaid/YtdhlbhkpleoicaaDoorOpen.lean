/- An argument's datum, opened by its kind: what its cells say, and what its weights tell of its sizes. -/
import Derived.Test.YtdhlbhkpleoicaaDoorWMore
import Derived.Test.YtdhlbhkpleoicaaDoorWSized
import Derived.Test.YtdhlbhkpleoicaaDoorProg
import Derived.WalkKit
import Derived.ProofKit
import Derived.OpenShut
import Derived.ChangeOld
import Derived.SizedLaws
import Derived.Deep.Slices
import Derived.Deep.Fields
namespace Go.Proofs.YtdhlbhkpleoicaaDoor.Opn
open Go.RowKit Go.ChangeShapes Go.WideShapes Go.Deep Go.Proofs.YtdhlbhkpleoicaaDoorW.PrintWords Go.Proofs.YtdhlbhkpleoicaaDoorW.PrintLast
set_option linter.unusedVariables false
set_option linter.unusedSimpArgs false
def Light (P : Program) (T : TypeId) {H : Type} (d : DataW H) : Prop := (d.weights P T).all (· ≤ reachBytes) = true
def Opens (P : Program) (T : TypeId) {α : Type} (d : Kd α) (Q : α → Prop) : Prop :=
  ∀ {H : Type} {enc : TypeId × Value → H} {W : World} {base : Nat} {spare : Nat → Bool} {held : Bool} {n : Nat} {cs : List Value} {x : DataW H × List MemPlace},
    DataW.trod enc P W base spare held n T cs = some x → Light P T x.1 → ∃ p, d.K W p cs ∧ Q p
theorem list_of {α : Type} {F : Nat → α → Prop} : ∀ n : Nat, (∀ i, i < n → ∃ p, F i p) → ∃ g : List α, g.length = n ∧ ∀ i p, g[i]? = some p → F i p
  | 0, _ => ⟨[], rfl, fun i p hp => by simp at hp⟩
  | n + 1, key => by
    obtain ⟨g, hg, hgp⟩ := list_of n (fun i hi => key i (by omega))
    obtain ⟨p, hp⟩ := key n (by omega)
    refine ⟨g ++ [p], by simp [hg], fun i q hq => ?_⟩
    rcases Nat.lt_or_ge i g.length with hlt | hge
    · rw [List.getElem?_append_left hlt] at hq
      exact hgp i q hq
    · have hi : i = n := by
        have := (List.getElem?_eq_some_iff.1 hq).1
        simp at this
        omega
      subst hi
      rw [← hg, List.getElem?_append_right (Nat.le_refl _), Nat.sub_self] at hq
      obtain rfl : p = q := by simpa using hq
      exact hp
theorem reach_eq : reachBytes = 140737488351232 := by decide
section
variable {P : Program} {T E : TypeId} {α : Type} {d : Kd α} {Q : α → Prop}
theorem opens_int {k : IntKind} (hu : P.underlying T = some (.int k)) : Opens P T (Kd.int k) (fun n => (Lit.int k n).wf = true) := by
  intro H enc W base spare held n cs x h hl
  obtain ⟨m, rfl, _, hw⟩ := DataW.trod_int hu h
  exact ⟨m, rfl, hw⟩
theorem opens_bool (hu : P.underlying T = some .bool) : Opens P T Kd.bool (fun _ => True) := by
  intro H enc W base spare held n cs x h hl
  obtain ⟨b, rfl, _⟩ := DataW.trod_bool hu h
  exact ⟨b, rfl, trivial⟩
theorem opens_string (hu : P.underlying T = some .string) : Opens P T Kd.string (fun s => s.size ≤ 140737488351232) := by
  intro H enc W base spare held n cs x h hl
  obtain ⟨s, rfl, hx, _⟩ := DataW.trod_string hu h
  refine ⟨s, rfl, ?_⟩
  have hd : s.data.toList.length = s.size := by rw [Array.length_toList]; rfl
  rw [hx] at hl
  simp only [Light, DataW.weights, List.all_cons, List.all_nil, Bool.and_true, decide_eq_true_eq] at hl
  rw [reach_eq] at hl
  omega
theorem light_all {H : Type} {e : TypeId} : ∀ {l : List (DataW H)}, (DataW.weightsAll P e l).all (· ≤ reachBytes) = true → ∀ z ∈ l, Light P e z
  | [], _, z, h => by cases h
  | y :: l, hl, z, h => by
    rw [DataW.weightsAll, List.all_append, Bool.and_eq_true] at hl
    rcases List.mem_cons.1 h with rfl | h
    · exact hl.1
    · exact light_all hl.2 z h
theorem light_each {H : Type} : ∀ {ts : List TypeId} {l : List (DataW H)}, (DataW.weightsEach P ts l).all (· ≤ reachBytes) = true → ∀ (i : Nat) (t : TypeId) (z : DataW H), ts[i]? = some t → l[i]? = some z → Light P t z
  | [], _, _, i, t, z, h, _ => by simp at h
  | _ :: _, [], _, i, t, z, _, h => by simp at h
  | t0 :: ts, y :: l, hl, i, t, z, h1, h2 => by
    rw [DataW.weightsEach, List.all_append, Bool.and_eq_true] at hl
    cases i with
    | zero =>
      simp only [List.getElem?_cons_zero, Option.some.injEq] at h1 h2
      subst h1 h2
      exact hl.1
    | succ i =>
      simp only [List.getElem?_cons_succ] at h1 h2
      exact light_each hl.2 i t z h1 h2
theorem opens_slice {B : Nat} (hu : P.underlying T = some (.slice E)) (hc : P.cellsOf E = d.sz) (hB : P.bytesOf E = B) (ho : Opens P E d Q) :
    Opens P T (Kd.slice E d) (fun l => (∀ x ∈ l, Q x) ∧ l.length * B ≤ 140737488351232) := by
  intro H enc W base spare held n cs x h hl
  rcases open_slice hu h with ⟨rfl, hx⟩ | ⟨ad, ln, cp, m, k, D, Pl, rfl, hb, hlc, hm, hmm, hx, hi⟩
  · exact ⟨[], ⟨none, 0, rfl, Nat.le_refl _, rfl, by simp, fun h0 => absurd h0 (by simp)⟩, by simp, by simp⟩
  · subst hx
    simp only [Light, DataW.weights, hu, List.all_cons, List.all_append, Bool.and_eq_true, decide_eq_true_eq, List.length_map, List.length_range] at hl
    obtain ⟨hw, hle, _⟩ := hl
    have hml : ln ≤ m := by rw [hmm]; split <;> omega
    rw [hB, reach_eq] at hw
    have hwt : ln * B ≤ 140737488351232 := Nat.le_trans (Nat.mul_le_mul_right _ (by omega)) hw
    have key : ∀ i, i < ln → ∃ p : α, (∃ c, c.length = d.sz ∧ d.K W p c ∧ ∀ j u, c[j]? = some u → W.cell? (ad.add (i * d.sz + j)) = some u) ∧ Q p := by
      intro i hlt
      obtain ⟨cs', hcs, ht⟩ := hi i (by omega)
      have hlD : Light P E (D i) := light_all hle _ (List.mem_map.2 ⟨i, List.mem_range.2 hlt, rfl⟩)
      obtain ⟨p, hK, hq⟩ := ho ht hlD
      rw [hc] at hcs
      obtain ⟨_, _, hat⟩ := World.cells?_some hcs
      have hlen := d.K_len hK
      refine ⟨p, ⟨cs', hlen, hK, fun j u hj => ?_⟩, hq⟩
      have hj3 : j < d.sz := by rw [← hlen]; exact (List.getElem?_eq_some_iff.1 hj).1
      rw [← Go.Deep.add_add, hat j hj3, hj]
    obtain ⟨g, hg, hgp⟩ := list_of ln key
    have hln : ln ≤ 9223372036854775807 := by unfold maxLen at hm; omega
    refine ⟨g, ⟨some ad, cp, by rw [hg], by rw [hg]; exact hlc, rfl, by rw [hg]; exact hln, fun _ => ⟨ad, rfl, fun j p hj => (hgp j p hj).1⟩⟩, fun x hx => ?_, by rw [hg]; exact hwt⟩
    obtain ⟨j, hj⟩ := List.getElem?_of_mem hx
    exact (hgp j x hj).2
/-! #### a struct's cells, field by field -/
theorem K_step {β : Type} {a : Kd α} {b : Kd β} {W : World} {x : α} {y : β} {cs : List Value} {o s q : Nat} (h0 : a.K W x ((cs.drop o).take s)) (h1 : b.K W y (cs.drop q)) (hq : q = o + s) : (Kd.pair a b).K W (x, y) (cs.drop o) :=
  ⟨_, _, by subst hq; rw [← List.drop_drop, List.take_append_drop], h0, h1⟩
theorem K_last {a : Kd α} {W : World} {x : α} {cs : List Value} {o s : Nat} (h0 : a.K W x ((cs.drop o).take s)) (hl : cs.length = o + s) : a.K W x (cs.drop o) := by
  rw [List.take_of_length_le (by rw [List.length_drop]; omega)] at h0
  exact h0
/-- The parts of a struct's datum. -/
theorem struct_parts {fs : Array Field} (hu : P.underlying T = some (.struct fs)) {sz : Nat} (hc : P.cellsOf T = sz) {H : Type} {enc : TypeId × Value → H} {W : World} {base : Nat} {spare : Nat → Bool} {held : Bool} {n : Nat} {cs : List Value} {x : DataW H × List MemPlace}
    (h : DataW.trod enc P W base spare held n T cs = some x) (hl : Light P T x.1) :
    cs.length = sz ∧ ∀ (i : Nat) (f : Field), fs[i]? = some f → ∀ {β : Type} {k : Kd β} {Q' : β → Prop}, Opens P f.type k Q' → P.cellsOf f.type = k.sz → ∃ p, k.K W p ((cs.drop f.offset).take k.sz) ∧ Q' p := by
  obtain ⟨xs, m, rfl, rfl, hlen, hxl, hf⟩ := DataW.trod_struct hu h
  refine ⟨hlen.trans hc, fun i f hfi β k Q' ho hk => ?_⟩
  have h1 := hf i f hfi
  have hi : i < xs.length := by rw [hxl]; exact (Array.getElem?_eq_some_iff.1 hfi).1
  rw [List.getElem?_eq_getElem hi, hk] at h1
  have h2 : Light P f.type xs[i].1 := by
    have hl' : (DataW.weightsEach P (fs.toList.map (·.type)) (xs.map (·.1))).all (· ≤ reachBytes) = true := by simpa only [Light, DataW.weights, hu] using hl
    exact light_each hl' i f.type _ (by rw [List.getElem?_map, Array.getElem?_toList, hfi]; rfl) (by rw [List.getElem?_map, List.getElem?_eq_getElem hi]; rfl)
  exact ho h1 h2
/-- At an argument. -/
theorem opens_arg {ts : List TypeId} {H : Type} {ds : List (DataW H)} {j : Nat} {x : DataW H} {enc : TypeId × Value → H} {W : World} {base : Nat} {spare : Nat → Bool} {held : Bool} {v : Value} {ps : List MemPlace} (ho : Opens P T d Q)
    (hsz : (DataW.weightsEach P ts ds).all (· ≤ reachBytes) = true) (ht : ts[j]? = some T) (hd : ds[j]? = some x) (h : DataW.Trod enc P W base spare held T v x ps) : ∃ p, d.K W p v.cells.toList ∧ Q p := by
  obtain ⟨fuel, hf⟩ := h
  exact ho hf (light_each hsz j T x ht hd)
/-- .. a slice. -/
theorem opens_arg_slice {ts : List TypeId} {H : Type} {ds : List (DataW H)} {j : Nat} {x : DataW H} {enc : TypeId × Value → H} {W : World} {base : Nat} {spare : Nat → Bool} {held : Bool} {v : Value} {ps : List MemPlace} {e : TypeId} {Q : List α → Prop} (ho : Opens P T (Kd.slice e d) Q)
    (hsz : (DataW.weightsEach P ts ds).all (· ≤ reachBytes) = true) (ht : ts[j]? = some T) (hd : ds[j]? = some x) (h : DataW.Trod enc P W base spare held T v x ps) {a : Option Addr} {len cap : Nat} (hv : v = .slice a len cap) :
    ∃ l : List α, l.length = len ∧ d.C W a l.length l ∧ l.length ≤ cap ∧ Q l := by
  subst hv
  obtain ⟨l, ⟨A, c, hcs, hlc, hC⟩, hq⟩ := opens_arg ho hsz ht hd h
  simp [Value.cells] at hcs
  obtain ⟨rfl, rfl, rfl⟩ := hcs
  exact ⟨l, rfl, hC, hlc, hq⟩
/-- .. a struct by value. -/
theorem opens_arg_struct {fs : Array Field} (hu : P.underlying T = some (.struct fs)) {ts : List TypeId} {H : Type} {ds : List (DataW H)} {j : Nat} {x : DataW H} {enc : TypeId × Value → H} {W : World} {base : Nat} {spare : Nat → Bool} {held : Bool} {v : Value} {ps : List MemPlace} (ho : Opens P T d Q)
    (hsz : (DataW.weightsEach P ts ds).all (· ≤ reachBytes) = true) (ht : ts[j]? = some T) (hd : ds[j]? = some x) (h : DataW.Trod enc P W base spare held T v x ps) {r : Reach} {b0 : Nat} (hv : Value.okWide P W r b0 T v) :
    ∃ (cs : List Value) (p : α), v = .agg cs.toArray ∧ d.K W p cs ∧ Q p := by
  obtain ⟨cs, rfl, _⟩ := okWide_struct hu hv
  obtain ⟨p, hK, hq⟩ := opens_arg ho hsz ht hd h
  refine ⟨cs.toList, p, by simp, ?_, hq⟩
  simpa [Value.cells] using hK
end
end Go.Proofs.YtdhlbhkpleoicaaDoor.Opn
