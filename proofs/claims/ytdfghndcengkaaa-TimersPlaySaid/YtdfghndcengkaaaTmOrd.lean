/- The order that Take's closure tells, and what is deleted: plain. -/
import Derived.Test.YtdfghndcengkaaaTmCmp
namespace Go.Proofs.Ytdfghndcengkaaa.Tmr
open Go.RowKit Go.Proofs.YtdfghndcengkaaaW.PrintWords Go.Proofs.YtdfghndcengkaaaW.PrintLast Go.Proofs.YtdfghndcengkaaaW.PrintMore Go.Proofs.Ytdfghndcengkaaa.PTimersPlay
open Amap Frm
set_option linter.unusedVariables false
set_option linter.unusedSimpArgs false
abbrev Ky := {b : ByteArray // domS b}
instance : Inhabited Ky := ⟨⟨⟨#[]⟩, by show (0 : Nat) ≤ 200; omega⟩⟩
def encK (x : Ky) : Value := .string x.1
def cf (T : Tms) (x y : Ky) : Int := cmpT T x.1 y.1
theorem cmpI_neg (x y : Int) : cmpI x y < 0 ↔ x < y := by
  unfold cmpI
  split
  · rename_i h; simp [h]
  · rename_i h
    split
    · simp; omega
    · simp; omega
theorem cmpI_zero (x y : Int) : cmpI x y = 0 ↔ x = y := by
  unfold cmpI
  split
  · simp; omega
  · split
    · simp; omega
    · simp; omega
theorem cmpS_neg (a b : ByteArray) : cmpS a b < 0 ↔ a.toList < b.toList := by
  unfold cmpS
  rw [← kless_iff]
  split
  · rename_i h; simp [h]
  · rename_i h
    split
    · simp [h]
    · simp [h]
/-- Less, as the closure tells it. -/
theorem cmpT_neg (T : Tms) (a b : ByteArray) : cmpT T a b < 0 ↔ tlt (a, due T a) (b, due T b) := by
  unfold cmpT tlt
  simp only []
  split
  · rename_i h
    rw [cmpI_zero] at h
    rw [cmpS_neg, h]
    constructor
    · exact fun e => .inr ⟨rfl, e⟩
    · rintro (e | e)
      · omega
      · exact e.2
  · rename_i h
    rw [cmpI_zero] at h
    rw [cmpI_neg]
    constructor
    · exact fun e => .inl e
    · rintro (e | e)
      · exact e
      · exact absurd e.1 h
theorem tlt_asymm {x y : Tm} (h : tlt x y) : ¬ tlt y x := fun k => tlt_irrefl _ (tlt_trans h k)
theorem lt_iff (T : Tms) (x y : Ky) : ltOf (cf T) x y = true ↔ tlt (x.1, due T x.1) (y.1, due T y.1) := by
  unfold ltOf cf
  rw [decide_eq_true_iff]
  exact cmpT_neg T _ _
theorem lt_iff' (T : Tms) (x y : Ky) : ltOf (cf T) x y = false ↔ ¬ tlt (x.1, due T x.1) (y.1, due T y.1) := by
  rw [← lt_iff T x y]
  simp
theorem swo (T : Tms) : Sort.SWO (ltOf (cf T)) where
  irrefl := fun x => (lt_iff' T x x).2 (tlt_irrefl _)
  trans := fun x y z h k => (lt_iff T x z).2 (tlt_trans ((lt_iff T x y).1 h) ((lt_iff T y z).1 k))
  ntrans := fun x y z h k => by
    rw [lt_iff'] at *
    intro e
    by_cases h1 : tlt (y.1, due T y.1) (x.1, due T x.1)
    · exact k (tlt_trans h1 e)
    · have e1 := tlt_total h h1
      rw [e1] at e
      exact k e
/-! ### what is deleted -/
def drops (T : Tms) (Ks : List ByteArray) : Tms := T.filter (fun p => Ks.all (fun k => oth k p))
theorem all_oth (Ks : List ByteArray) (p : Tm) : (Ks.all (fun k => oth k p)) = true ↔ p.1 ∉ Ks := by
  rw [List.all_eq_true]
  constructor
  · intro h hm
    have := h p.1 hm
    simp [oth] at this
  · intro h k hk
    have : p.1 ≠ k := fun e => h (e ▸ hk)
    simp [oth, this]
theorem drops_nil (T : Tms) : drops T [] = T := List.filter_eq_self.2 (fun p _ => by simp)
theorem drops_snoc {T : Tms} (hn : nd T) (Ks : List ByteArray) (k : ByteArray) : drops T (Ks ++ [k]) = mdel (drops T Ks) k := by
  have h1 : nd (drops T Ks) := List.Sublist.nodup ((List.filter_sublist).map _) hn
  rw [del_oth h1]
  unfold drops
  rw [List.filter_filter]
  refine List.filter_congr fun p _ => ?_
  rw [List.all_append]
  simp [Bool.and_comm]
theorem drops_sub (T : Tms) (Ks : List ByteArray) : List.Sublist (drops T Ks) T := List.filter_sublist
theorem drops_all {T D : Tms} (hn : nd T) (now : Int) (hp : D.Perm (T.filter (early now))) : drops T (D.map (·.1)) = ttake T now := by
  unfold drops ttake
  refine List.filter_congr fun p hpm => ?_
  have : p.1 ∈ D.map (·.1) ↔ early now p = true := by
    constructor
    · intro h
      obtain ⟨q, hq, e⟩ := List.mem_map.1 h
      have h1 := List.mem_filter.1 (hp.mem_iff.1 hq)
      have h2 : mlook T p.1 = some p.2 := mem_look hn hpm
      have h3 : mlook T q.1 = some q.2 := mem_look hn h1.1
      rw [e, h2] at h3
      cases p
      cases q
      simp only [Option.some.injEq] at h3 e
      subst h3 e
      exact h1.2
    · intro h
      exact List.mem_map.2 ⟨p, hp.mem_iff.2 (List.mem_filter.2 ⟨hpm, h⟩), rfl⟩
  cases he : early now p with
  | true =>
    cases ha : (D.map (·.1)).all (fun k => oth k p) with
    | false => rfl
    | true => exact absurd (this.2 he) ((all_oth _ _).1 ha)
  | false =>
    have : p.1 ∉ D.map (·.1) := fun h => by rw [this.1 h] at he; cases he
    rw [(all_oth _ _).2 this]
    rfl
/-- Keys, back to pairs. -/
theorem pairs_of {T : Tms} (hn : nd T) (now : Int) {Ks Ks' : List ByteArray} {D : Tms} (hD : D.Perm T) (hK : Ks = (D.filter (early now)).map (·.1)) (hp : Ks'.Perm Ks) (hs : Ks'.Pairwise (fun a b => ¬ tlt (b, due T b) (a, due T a))) :
    ∃ D' : Tms, D'.Perm (T.filter (early now)) ∧ D'.map (·.1) = Ks' ∧ D'.Pairwise (fun x y => ¬ tlt y x) := by
  have h0 : ∀ k ∈ Ks', (k, due T k) ∈ T ∧ early now (k, due T k) = true := fun k hk => by
    have h1 := hp.mem_iff.1 hk
    rw [hK] at h1
    obtain ⟨q, hq, e⟩ := List.mem_map.1 h1
    obtain ⟨h2, h3⟩ := List.mem_filter.1 hq
    have h4 := hD.mem_iff.1 h2
    subst e
    have h5 : due T q.1 = q.2 := by unfold due; rw [mem_look hn h4]; rfl
    rw [h5]
    exact ⟨h4, h3⟩
  refine ⟨Ks'.map (fun k => (k, due T k)), ?_, ?_, List.pairwise_map.2 hs⟩
  · have h1 : (Ks.map (fun k => (k, due T k))) = D.filter (early now) := by
      rw [hK, List.map_map]
      refine (List.map_congr_left fun q hq => ?_).trans (List.map_id _)
      have h4 := hD.mem_iff.1 (List.mem_filter.1 hq).1
      show (q.1, due T q.1) = q
      unfold due
      rw [mem_look hn h4]
      rfl
    exact (hp.map _).trans (by rw [h1]; exact hD.filter _)
  · rw [List.map_map]
    exact (List.map_congr_left fun _ _ => rfl).trans (List.map_id _)
end Go.Proofs.Ytdfghndcengkaaa.Tmr
