/- A map's block as a list of pairs, in the order of its entries: mlook-up, store, delete, len. -/
import Derived.WideKeyEntry
import Derived.Maps.Own
import Derived.Maps.OwnOps
import Derived.OneCell
namespace Go.Proofs.YtdhlbhkpleoicaaDoor.Amap
set_option linter.unusedSectionVars false
set_option linter.unusedSimpArgs false
open Go.ChangeMaps Go.MapKept
open Go.Maps (Keyed)

section
variable {κ α : Type} [DecidableEq κ]

def mlook : List (κ × α) → κ → Option α
  | [], _ => none
  | p :: m, x => if p.1 = x then some p.2 else mlook m x
def mput : List (κ × α) → κ → α → List (κ × α)
  | [], x, v => [(x, v)]
  | p :: m, x, v => if p.1 = x then (x, v) :: m else p :: mput m x v
def mdel : List (κ × α) → κ → List (κ × α)
  | [], _ => []
  | p :: m, x => if p.1 = x then m else p :: mdel m x

theorem mlook_none {m : List (κ × α)} {x : κ} : mlook m x = none ↔ ∀ p ∈ m, p.1 ≠ x := by
  induction m with
  | nil => simp [mlook]
  | cons p m ih =>
    unfold mlook
    split
    · rename_i h; simp [h]
    · rename_i h; simp [h, ih]
theorem mlook_at {m : List (κ × α)} {x : κ} {v : α} {j : Nat} (hn : (m.map (·.1)).Nodup) (h : m[j]? = some (x, v)) : mlook m x = some v := by
  induction m generalizing j with
  | nil => simp at h
  | cons p m ih =>
    cases j with
    | zero =>
      simp only [List.getElem?_cons_zero, Option.some.injEq] at h
      subst h
      simp [mlook]
    | succ j =>
      simp only [List.getElem?_cons_succ] at h
      rw [List.map_cons, List.nodup_cons] at hn
      have hne : p.1 ≠ x := fun e => hn.1 (e ▸ List.mem_map.2 ⟨(x, v), List.mem_of_getElem? h, rfl⟩)
      unfold mlook
      rw [if_neg hne]
      exact ih hn.2 h
theorem mput_new {m : List (κ × α)} {x : κ} (v : α) (h : ∀ p ∈ m, p.1 ≠ x) : mput m x v = m ++ [(x, v)] := by
  induction m with
  | nil => rfl
  | cons p m ih =>
    unfold mput
    rw [if_neg (h p (by simp)), ih (fun q hq => h q (by simp [hq]))]
    rfl
theorem mput_at {m : List (κ × α)} {x : κ} {v0 v : α} {j : Nat} (hn : (m.map (·.1)).Nodup) (h : m[j]? = some (x, v0)) : mput m x v = m.set j (x, v) := by
  induction m generalizing j with
  | nil => simp at h
  | cons p m ih =>
    cases j with
    | zero =>
      simp only [List.getElem?_cons_zero, Option.some.injEq] at h
      subst h
      simp [mput]
    | succ j =>
      simp only [List.getElem?_cons_succ] at h
      rw [List.map_cons, List.nodup_cons] at hn
      have hne : p.1 ≠ x := fun e => hn.1 (e ▸ List.mem_map.2 ⟨(x, v0), List.mem_of_getElem? h, rfl⟩)
      unfold mput
      rw [if_neg hne, ih hn.2 h]
      rfl
theorem mdel_none {m : List (κ × α)} {x : κ} (h : ∀ p ∈ m, p.1 ≠ x) : mdel m x = m := by
  induction m with
  | nil => rfl
  | cons p m ih =>
    unfold mdel
    rw [if_neg (h p (by simp)), ih (fun q hq => h q (by simp [hq]))]
theorem mdel_at {m : List (κ × α)} {x : κ} {v0 : α} {j : Nat} (hn : (m.map (·.1)).Nodup) (h : m[j]? = some (x, v0)) : mdel m x = m.eraseIdx j := by
  induction m generalizing j with
  | nil => simp at h
  | cons p m ih =>
    cases j with
    | zero =>
      simp only [List.getElem?_cons_zero, Option.some.injEq] at h
      subst h
      simp [mdel]
    | succ j =>
      simp only [List.getElem?_cons_succ] at h
      rw [List.map_cons, List.nodup_cons] at hn
      have hne : p.1 ≠ x := fun e => hn.1 (e ▸ List.mem_map.2 ⟨(x, v0), List.mem_of_getElem? h, rfl⟩)
      unfold mdel
      rw [if_neg hne, ih hn.2 h]
      rfl
theorem mput_keys_new {m : List (κ × α)} {x : κ} (v : α) (hn : (m.map (·.1)).Nodup) (h : ∀ p ∈ m, p.1 ≠ x) : ((mput m x v).map (·.1)).Nodup := by
  rw [mput_new v h, List.map_append, List.nodup_append]
  refine ⟨hn, by simp, ?_⟩
  intro a ha b hb
  simp only [List.map_cons, List.map_nil, List.mem_singleton] at hb
  subst hb
  obtain ⟨p, hp, rfl⟩ := List.mem_map.1 ha
  exact h p hp
theorem mput_keys_old {m : List (κ × α)} {x : κ} {v0 : α} (v : α) {j : Nat} (hn : (m.map (·.1)).Nodup) (h : m[j]? = some (x, v0)) : (mput m x v).map (·.1) = m.map (·.1) := by
  rw [mput_at hn h, List.map_set]
  refine List.ext_getElem? fun i => ?_
  rw [List.getElem?_set]
  split
  · rename_i e
    subst e
    have hl : j < m.length := (List.getElem?_eq_some_iff.1 h).1
    rw [List.getElem?_map, h, if_pos (by simpa using hl)]
    rfl
  · rfl

/-- How keys are written: what is read of them is told by the type, and tells them apart. -/
structure Enc (P : Program) (k : TypeId) (ek : κ → Value) (dom : κ → Prop) : Prop where
  law : Keyed P k
  key : ∀ {x}, dom x → ∃ l, keyOf P k (ek x) = some l
  inj : ∀ {x y}, ek x = ek y → x = y

/-- Block b is a map with these entries. -/
def MapIs (ek : κ → Value) (ev : α → Value) (dom : κ → Prop) (w : World) (b : Nat) (m : List (κ × α)) : Prop :=
  ∃ es clock, w.heap[b]? = some (.map es clock) ∧ es.toList.map (fun e => (e.key, e.val)) = m.map (fun p => (ek p.1, ev p.2)) ∧ (∀ p ∈ m, dom p.1) ∧ (m.map (·.1)).Nodup ∧ Stamped es clock

variable {ek : κ → Value} {ev : α → Value} {dom : κ → Prop} {P : Program} {k e t : TypeId} {w : World} {b : Nat} {m : List (κ × α)}

theorem MapIs.lt (h : MapIs ek ev dom w b m) : b < w.heap.size := by
  obtain ⟨es, clock, hb, _⟩ := h
  exact (Array.getElem?_eq_some_iff.1 hb).1
theorem MapIs.move (h : MapIs ek ev dom w b m) {w' : World} (hw : w'.heap[b]? = w.heap[b]?) : MapIs ek ev dom w' b m := by
  obtain ⟨es, clock, hb, r⟩ := h
  exact ⟨es, clock, hw.trans hb, r⟩
theorem MapIs.made (w : World) : MapIs ek ev dom (w.alloc (.map #[] 0)) w.heap.size ([] : List (κ × α)) :=
  ⟨#[], 0, (MapKept.heap_alloc w _).1, rfl, by simp, by simp, stamped_empty 0⟩

theorem at_both {es : List MapEntry} {m : List (κ × α)} (he : es.map (fun e => (e.key, e.val)) = m.map (fun p => (ek p.1, ev p.2))) (j : Nat) : (es[j]?).map (fun e => (e.key, e.val)) = (m[j]?).map (fun p => (ek p.1, ev p.2)) := by
  rw [← List.getElem?_map, he, List.getElem?_map]
theorem keys_read (K : Enc P k ek dom) {es : List MapEntry} {m : List (κ × α)} (he : es.map (fun e => (e.key, e.val)) = m.map (fun p => (ek p.1, ev p.2))) (hd : ∀ p ∈ m, dom p.1) : ∀ e ∈ es, ∃ l, keyOf P k e.key = some l := by
  intro e hm
  obtain ⟨j, hj⟩ := List.getElem?_of_mem hm
  have h1 := at_both he j
  rw [hj] at h1
  cases hp : m[j]? with
  | none => rw [hp] at h1; simp at h1
  | some p =>
    rw [hp] at h1
    simp only [Option.map_some, Option.some.injEq, Prod.mk.injEq] at h1
    rw [h1.1]
    exact K.key (hd p (List.mem_of_getElem? hp))
/-- The find of the model, over pairs. -/
theorem find_spec (K : Enc P k ek dom) (w : World) {x : κ} (hx : dom x) {es : List MapEntry} {m : List (κ × α)} (he : es.map (fun e => (e.key, e.val)) = m.map (fun p => (ek p.1, ev p.2))) (hd : ∀ p ∈ m, dom p.1) (hn : (m.map (·.1)).Nodup) :
    ((Instr.findKey k (ek x) es).run P w = .ok none w ∧ (∀ p ∈ m, p.1 ≠ x) ∧ ∀ e ∈ es, e.key ≠ ek x) ∨
    ∃ j v0 e0, (Instr.findKey k (ek x) es).run P w = .ok (some (j, ev v0)) w ∧ es[j]? = some e0 ∧ e0.key = ek x ∧ m[j]? = some (x, v0) := by
  obtain ⟨lx, hlx⟩ := K.key hx
  rcases K.law.find w hlx es (keys_read K he hd) with ⟨h1, h2⟩ | ⟨j, e0, h1, h2, h3⟩
  · refine .inl ⟨h1, fun p hp e1 => ?_, h2⟩
    obtain ⟨j, hj⟩ := List.getElem?_of_mem hp
    have ha := at_both he j
    rw [hj] at ha
    cases hq : es[j]? with
    | none => rw [hq] at ha; simp at ha
    | some e0 =>
      rw [hq] at ha
      simp only [Option.map_some, Option.some.injEq, Prod.mk.injEq] at ha
      exact h2 e0 (List.mem_of_getElem? hq) (by rw [ha.1, e1])
  · have ha := at_both he j
    rw [h2] at ha
    cases hp : m[j]? with
    | none => rw [hp] at ha; simp at ha
    | some p =>
      rw [hp] at ha
      simp only [Option.map_some, Option.some.injEq, Prod.mk.injEq] at ha
      obtain rfl : p.1 = x := K.inj (ha.1.symm.trans h3)
      exact .inr ⟨j, p.2, e0, by rw [h1, ha.2], h2, h3, hp⟩

/-- 'm[k]' and 'v, ok := m[k]'. -/
theorem MapIs.lookup (h : MapIs ek ev dom w b m) (K : Enc P k ek dom) (ht : P.underlying t = some (.map k e)) {z : Value} (hz : (zeroValue e).run P w = .ok z w) {x : κ} (hx : dom x) (c : Bool) :
    (Instr.lookup t (.map (some b)) (ek x) c).run P w = .ok (if c then .tuple #[((mlook m x).map ev).getD z, .bool (mlook m x).isSome] else ((mlook m x).map ev).getD z) w := by
  obtain ⟨es, clock, hb, he, hd, hn, hs⟩ := h
  obtain ⟨lx, hlx⟩ := K.key hx
  rcases find_spec K w hx he hd hn with ⟨h1, h2, _⟩ | ⟨j, v0, e0, h1, _, _, h4⟩
  · rw [mlook_none.2 h2]
    simp [Instr.lookup, run_underlying ht, MapKept.run_getObj_map hb, K.law.check w _ hlx, h1, hz, Result.andThen]
  · rw [mlook_at hn h4]
    simp [Instr.lookup, run_underlying ht, MapKept.run_getObj_map hb, K.law.check w _ hlx, h1, Result.andThen]
/-- .. of a nil map. -/
theorem lookup_nil (K : Enc P k ek dom) (ht : P.underlying t = some (.map k e)) {z : Value} (hz : (zeroValue e).run P w = .ok z w) {x : κ} (hx : dom x) (c : Bool) :
    (Instr.lookup t (.map none) (ek x) c).run P w = .ok (if c then .tuple #[z, .bool false] else z) w := by
  obtain ⟨lx, hlx⟩ := K.key hx
  have h1 : (Instr.findKey k (ek x) []).run P w = .ok none w := by
    rcases K.law.find w hlx [] (by simp) with ⟨h1, _⟩ | ⟨j, e0, _, h2, _⟩
    · exact h1
    · simp at h2
  simp [Instr.lookup, run_underlying ht, K.law.check w _ hlx, h1, hz, Result.andThen]

theorem MapIs.len (h : MapIs ek ev dom w b m) (ht : P.underlying t = some (.map k e)) (ty : TypeId) : (Builtin.len_ #[t] ty #[.map (some b)]).run P w = .ok (.int .i64 m.length) w := by
  obtain ⟨es, clock, hb, he, hd, hn, hs⟩ := h
  have hlen : es.size = m.length := by have := congrArg List.length he; simpa using this
  rw [← hlen]
  simp [Builtin.len_, run_underlying ht, MapKept.run_getObj_map hb, goInt, Result.andThen]
theorem len_nil (ht : P.underlying t = some (.map k e)) (ty : TypeId) : (Builtin.len_ #[t] ty #[.map none]).run P w = .ok (.int .i64 0) w := by
  simp [Builtin.len_, run_underlying ht, goInt, Result.andThen]
/-- 'm[k] = v'. -/
theorem MapIs.update (h : MapIs ek ev dom w b m) (K : Enc P k ek dom) (ht : P.underlying t = some (.map k e)) {x : κ} (hx : dom x) (v : α) :
    ∃ w', (Instr.mapUpdate t (.map (some b)) (ek x) (ev v)).run P w = .ok () w' ∧ MapIs ek ev dom w' b (mput m x v) ∧ w.grownBy w' (some b) := by
  obtain ⟨es, clock, hb, he, hd, hn, hs⟩ := h
  obtain ⟨lx, hlx⟩ := K.key hx
  have hgrown : ∀ es' clock', w.grownBy (setBlock w b (.map es' clock')) (some b) := fun es' clock' =>
    ⟨rfl, rfl, rfl, by simp [setBlock], fun i _ hi => heap_setBlock_other hb _ (fun e => hi (by rw [e]))⟩
  rcases find_spec K w hx he hd hn with ⟨h1, h2, h3⟩ | ⟨j, v0, e0, h1, h2, h3, h4⟩
  · refine ⟨setBlock w b (.map (es.push ⟨ek x, ev v, clock⟩) (clock + 1)), ?_, ⟨_, _, heap_setBlock_same hb _, ?_, ?_, mput_keys_new v hn h2, stamped_push hs h3⟩, hgrown _ _⟩
    · simp [Instr.mapUpdate, run_underlying ht, MapKept.run_getObj_map hb, K.law.check w false hlx, h1, MapKept.run_setObj_map _ hb, Result.andThen, setBlock]
    · rw [mput_new v h2, Array.toList_push, List.map_append, he, List.map_append]
      rfl
    · intro p hp
      rw [mput_new v h2] at hp
      rcases List.mem_append.1 hp with hp | hp
      · exact hd p hp
      · rw [List.mem_singleton.1 hp]; exact hx
  · have hj : es[j]? = some e0 := by simpa using h2
    have hlist : (es.modify j (fun e' => { e' with key := ek x, val := ev v })).toList = es.toList.set j { e0 with key := ek x, val := ev v } := by rw [Array.toList_modify, modify_eq_set _ _ _ _ h2]
    have hkeyf : ∀ e', es[j]? = some e' → ({ e' with key := ek x, val := ev v } : MapEntry).key = e'.key := fun e' he' => by rw [hj] at he'; cases he'; exact h3.symm
    refine ⟨setBlock w b (.map (es.modify j (fun e' => { e' with key := ek x, val := ev v })) clock), ?_, ⟨_, _, heap_setBlock_same hb _, ?_, ?_, by rw [mput_keys_old v hn h4]; exact hn, stamped_modify hs _ _ (fun _ _ => rfl) (fun e' _ he' => hkeyf e' he')⟩, hgrown _ _⟩
    · simp [Instr.mapUpdate, run_underlying ht, MapKept.run_getObj_map hb, K.law.check w false hlx, h1, hj, h3, K.law.stays w hlx, MapKept.run_setObj_map _ hb, Result.andThen, setBlock]
    · rw [hlist, List.map_set, he, mput_at hn h4, List.map_set]
    · intro p hp
      rw [mput_at hn h4] at hp
      rcases List.mem_or_eq_of_mem_set hp with hp | rfl
      · exact hd p hp
      · exact hx

/-- 'm[k] = append(m[k], ..)': the entry is laid, and its value is written later. -/
theorem MapIs.entry (h : MapIs ek ev dom w b m) (K : Enc P k ek dom) (ht : P.underlying t = some (.map k e)) {z : α} (hz : (zeroValue e).run P w = .ok (ev z) w) {x : κ} (hx : dom x) :
    ∃ (st : Nat) (w1 : World), (Instr.mapEntry t (.map (some b)) (ek x)).run P w = .ok (.tuple #[ev ((mlook m x).getD z), goInt st]) w1 ∧ MapIs ek ev dom w1 b (mput m x ((mlook m x).getD z)) ∧ w.grownBy w1 (some b) ∧
      ∀ (w2 : World) (v : α), w2.heap[b]? = w1.heap[b]? → ∃ w3, (Instr.entryStore t (.map (some b)) (goInt st) (ev v)).run P w2 = .ok () w3 ∧ MapIs ek ev dom w3 b (mput m x v) ∧ w2.grownBy w3 (some b) := by
  obtain ⟨es, clock, hb, he, hd, hn, hs⟩ := h
  obtain ⟨lx, hlx⟩ := K.key hx
  obtain ⟨s1, s2, s3⟩ := hs
  have hs : Stamped es clock := ⟨s1, s2, s3⟩
  have hgrown : ∀ (w : World) es es' clock clock', w.heap[b]? = some (.map es clock) → w.grownBy (setBlock w b (.map es' clock')) (some b) := fun w es es' clock clock' hb =>
    ⟨rfl, rfl, rfl, by simp [setBlock], fun i _ hi => heap_setBlock_other hb _ (fun e => hi (by rw [e]))⟩
  rcases find_spec K w hx he hd hn with ⟨h1, h2, h3⟩ | ⟨j, v0, e0, h1, h2, h3, h4⟩
  · have hmis : ∀ (v : α) (w : World) es0 clock0, w.heap[b]? = some (.map es0 clock0) → MapIs ek ev dom (setBlock w b (.map (es.push ⟨ek x, ev v, clock⟩) (clock + 1))) b (mput m x v) := fun v w es0 clock0 hb => by
      refine ⟨_, _, heap_setBlock_same hb _, ?_, ?_, mput_keys_new v hn h2, stamped_push hs h3⟩
      · rw [mput_new v h2, Array.toList_push, List.map_append, he, List.map_append]
        rfl
      · intro p hp
        rw [mput_new v h2] at hp
        rcases List.mem_append.1 hp with hp | hp
        · exact hd p hp
        · rw [List.mem_singleton.1 hp]; exact hx
    rw [mlook_none.2 h2]
    refine ⟨clock, setBlock w b (.map (es.push ⟨ek x, ev z, clock⟩) (clock + 1)), ?_, hmis z w _ _ hb, hgrown w _ _ _ _ hb, fun w2 v hw2 => ?_⟩
    · simp [Instr.mapEntry, run_underlying ht, MapKept.run_getObj_map hb, K.law.check w false hlx, h1, hz, MapKept.run_setObj_map _ hb, Result.andThen, setBlock]
    · rw [heap_setBlock_same hb] at hw2
      refine ⟨setBlock w2 b (.map (es.push ⟨ek x, ev v, clock⟩) (clock + 1)), ?_, hmis v w2 _ _ hw2, hgrown w2 _ _ _ _ hw2⟩
      have hidx : (es.push ⟨ek x, ev z, clock⟩).findIdx? (fun e => ((e.born : Nat) : Int) == ((clock : Nat) : Int)) = some es.size := by
        rw [WideElems.findIdx_arr]
        exact WideElems.findIdx_born (l := (es.push ⟨ek x, ev z, clock⟩).toList) (j := es.size) (e0 := ⟨ek x, ev z, clock⟩) (by
          simp only [Array.toList_push, List.map_append, List.map_cons, List.map_nil]
          refine List.nodup_append.2 ⟨s2, by simp, fun a ha c hc e1 => ?_⟩
          simp only [List.mem_singleton] at hc
          obtain ⟨y, hy, rfl⟩ := List.mem_map.1 ha
          have := s1 y hy
          omega) (by simp)
      have hmod : (es.push ⟨ek x, ev z, clock⟩).modify es.size (fun e => { e with val := ev v }) = es.push ⟨ek x, ev v, clock⟩ := by
        apply Array.ext'
        rw [Array.toList_modify, Array.toList_push, Array.toList_push, ← Array.length_toList, WideElems.modify_last]
      simp [Instr.entryStore, MapKept.run_getObj_map hw2, asInt, asIntOf, goInt, hidx, hmod, MapKept.run_setObj_map _ hw2, Result.andThen, setBlock]
  · have hj : es[j]? = some e0 := by simpa using h2
    have hsame : es.modify j (fun e => { e with key := ek x }) = es := by
      apply Array.ext'
      rw [Array.toList_modify, modify_eq_set _ _ _ _ h2]
      have : ({ e0 with key := ek x } : MapEntry) = e0 := by rw [← h3]
      rw [this]
      exact WideElems.set_self _ _ _ h2
    have hv0 : e0.val = ev v0 := by
      have ha := at_both he j
      rw [h2, h4] at ha
      simp only [Option.map_some, Option.some.injEq, Prod.mk.injEq] at ha
      exact ha.2
    rw [mlook_at hn h4]
    have hself : mput m x v0 = m := by
      rw [mput_at hn h4]
      exact WideElems.set_self _ _ _ h4
    refine ⟨e0.born, setBlock w b (.map es clock), ?_, ?_, hgrown w _ _ _ _ hb, fun w2 v hw2 => ?_⟩
    · simp [Instr.mapEntry, run_underlying ht, MapKept.run_getObj_map hb, K.law.check w false hlx, h1, hj, h3, K.law.stays w hlx, hsame, MapKept.run_setObj_map _ hb, Result.andThen, setBlock]
    · rw [Option.getD_some, hself]
      exact ⟨_, _, heap_setBlock_same hb _, he, hd, hn, hs⟩
    · rw [heap_setBlock_same hb] at hw2
      have hlist : (es.modify j (fun e' => { e' with val := ev v })).toList = es.toList.set j { e0 with val := ev v } := by rw [Array.toList_modify, modify_eq_set _ _ _ _ h2]
      refine ⟨setBlock w2 b (.map (es.modify j (fun e' => { e' with val := ev v })) clock), ?_, ⟨_, _, heap_setBlock_same hw2 _, ?_, ?_, by rw [mput_keys_old v hn h4]; exact hn, stamped_modify hs _ _ (fun _ _ => rfl) (fun e' _ he' => rfl)⟩, hgrown w2 _ _ _ _ hw2⟩
      · have hidx : es.findIdx? (fun e => ((e.born : Nat) : Int) == ((e0.born : Nat) : Int)) = some j := by
          rw [WideElems.findIdx_arr]
          exact WideElems.findIdx_born s2 h2
        simp [Instr.entryStore, MapKept.run_getObj_map hw2, asInt, asIntOf, goInt, hidx, MapKept.run_setObj_map _ hw2, Result.andThen, setBlock]
      · rw [hlist, List.map_set, he, mput_at hn h4, List.map_set, h3]
      · intro p hp
        rw [mput_at hn h4] at hp
        rcases List.mem_or_eq_of_mem_set hp with hp | rfl
        · exact hd p hp
        · exact hx
/-- 'delete(m, k)'. -/
theorem MapIs.delete (h : MapIs ek ev dom w b m) (K : Enc P k ek dom) (ht : P.underlying t = some (.map k e)) {x : κ} (hx : dom x) (ty : TypeId) :
    ∃ w', (Builtin.delete_ #[t, k] ty #[.map (some b), ek x]).run P w = .ok (.tuple #[]) w' ∧ MapIs ek ev dom w' b (mdel m x) ∧ w.grownBy w' (some b) := by
  obtain ⟨es, clock, hb, he, hd, hn, hs⟩ := h
  obtain ⟨lx, hlx⟩ := K.key hx
  have hgrown : ∀ es' clock', w.grownBy (setBlock w b (.map es' clock')) (some b) := fun es' clock' =>
    ⟨rfl, rfl, rfl, by simp [setBlock], fun i _ hi => heap_setBlock_other hb _ (fun e => hi (by rw [e]))⟩
  rcases find_spec K w hx he hd hn with ⟨h1, h2, h3⟩ | ⟨j, v0, e0, h1, h2, h3, h4⟩
  · refine ⟨setBlock w b (.map es clock), ?_, ⟨_, _, heap_setBlock_same hb _, ?_, ?_, ?_, hs⟩, hgrown _ _⟩
    · simp [Builtin.delete_, run_underlying ht, MapKept.run_getObj_map hb, K.law.check w _ hlx, h1, MapKept.run_setObj_map _ hb, Result.andThen, setBlock]
    · rw [mdel_none h2, he]
    · rw [mdel_none h2]; exact hd
    · rw [mdel_none h2]; exact hn
  · have hjs : j < es.size := by have := (List.getElem?_eq_some_iff.1 h2).1; simpa using this
    have hsub : (es.eraseIdxIfInBounds j).toList = es.toList.eraseIdx j := by
      unfold Array.eraseIdxIfInBounds
      rw [dif_pos hjs]
      simp
    refine ⟨setBlock w b (.map (es.eraseIdxIfInBounds j) clock), ?_, ⟨_, _, heap_setBlock_same hb _, ?_, ?_, ?_, stamped_erase hs j⟩, hgrown _ _⟩
    · simp [Builtin.delete_, run_underlying ht, MapKept.run_getObj_map hb, K.law.check w _ hlx, h1, MapKept.run_setObj_map _ hb, Result.andThen, setBlock]
    · rw [hsub, map_eraseIdx, he, mdel_at hn h4, map_eraseIdx]
    · intro p hp
      rw [mdel_at hn h4] at hp
      exact hd p ((List.eraseIdx_sublist _ _).subset hp)
    · rw [mdel_at hn h4, map_eraseIdx]
      exact hn.sublist (List.eraseIdx_sublist _ _)
end
/-! at the operation, for the walk -/
section
variable {P : Program} {w : World} {ops : Array Oper} {rest : List Oper} {o : Oper} {a : Act} {Q : Exit → Act → World → Prop}
theorem wpList_lookup_run (hg : o.guard = none) (m x : Operand) (t : TypeId) (c : Bool) (hop : o.op = Op.lookup t m x c) (mv kv : Value) (hm : a.eval m = mv) (hx : a.eval x = kv) (v : Value)
    (hrun : (Instr.lookup t mv kv c).run P w = .ok v w) (hK : wpList P ops Q rest (a.put o.dst v) w) : wpList P ops Q (o :: rest) a w := by
  refine wpList_plain hg fun K' hK' => ?_
  unfold Oper.wp
  simp [execOp, hop, hm, hx, hrun, Result.andThen]
  exact hK' _ _ hK
theorem wpList_update_run (hg : o.guard = none) (m x y : Operand) (t : TypeId) (hop : o.op = Op.mapUpdate t m x y) (mv kv vv : Value) (hm : a.eval m = mv) (hx : a.eval x = kv) (hv : a.eval y = vv) {R : World → Prop}
    (hrun : ∃ w', (Instr.mapUpdate t mv kv vv).run P w = .ok () w' ∧ R w') (hK : ∀ w', R w' → wpList P ops Q rest (a.put o.dst undef) w') : wpList P ops Q (o :: rest) a w := by
  refine wpList_plain hg fun K' hK' => ?_
  obtain ⟨w', hr, r1⟩ := hrun
  unfold Oper.wp
  simp [execOp, hop, hm, hx, hv, hr, Result.andThen]
  exact hK' _ _ (hK w' r1)
end
end Go.Proofs.YtdhlbhkpleoicaaDoor.Amap
