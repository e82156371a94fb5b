/- Where a ledger lies in memory, and what may turn. -/
import Derived.Test.YtdglbiafpofeeaaLedWalk
import Derived.Test.YtdglbiafpofeeaaPLedgerPlaysx0
import Derived.WideKeyPair
namespace Go.Proofs.Ytdglbiafpofeeaa.Led
open Go.RowKit Go.Proofs.YtdglbiafpofeeaaW.PrintWords Go.Proofs.YtdglbiafpofeeaaW.PrintLast Go.Proofs.YtdglbiafpofeeaaW.PrintMore Go.Proofs.Ytdglbiafpofeeaa.PLedgerPlays
open Amap
set_option linter.unusedVariables false
set_option linter.unusedSimpArgs false

/-! ### what may turn -/
/-- An object that is left as it is: no cells of these types, and no map (where maps may turn). -/
def Still (T : List Nat) (mp : Bool) : Obj → Prop
  | .cells _ t _ => t ∉ T
  | .map _ _ => mp = false
  | _ => True
structure Fr (T : List Nat) (mp : Bool) (base : Nat) (w w' : World) : Prop where
  below : Below base w w'
  same : ∀ (i : Nat) (o : Obj), w.heap[i]? = some o → Still T mp o → w'.heap[i]? = some o
section
variable {T : List Nat} {mp : Bool} {base : Nat} {w w1 w2 : World}
theorem Fr.refl (T : List Nat) (mp : Bool) (base : Nat) (w : World) : Fr T mp base w w := ⟨Below.refl _ _, fun _ _ h _ => h⟩
theorem Fr.trans (h : Fr T mp base w w1) (k : Fr T mp base w1 w2) : Fr T mp base w w2 := ⟨h.below.trans k.below, fun i o ho hs => k.same i o (h.same i o ho hs) hs⟩
theorem Fr.of_below (hb : base ≤ w.heap.size) (h : Below w.heap.size w w1) (T : List Nat) (mp : Bool) : Fr T mp base w w1 := ⟨h.mono hb, fun i o ho _ => (h.block i (blk_lt ho)).trans ho⟩
theorem Fr.drew (h : Fr T mp base w w1) : Fr T mp base w w1.drew := ⟨h.below.drew, h.same⟩
theorem Fr.drewN (h : Fr T mp base w w1) (n : Nat) : Fr T mp base w (w1.drewN n) := ⟨pw_below_drewN h.below n, h.same⟩
theorem Fr.alloc (h : Fr T mp base w w1) (hb : base ≤ w.heap.size) (o : Obj) : Fr T mp base w (w1.alloc o) :=
  ⟨h.below.alloc (Nat.le_trans hb h.below.size) o, fun i o' ho hs => blk_alloc (h.same i o' ho hs) o⟩
theorem Fr.set (h : Fr T mp base w w1) {g t : Nat} {cs : Array Value} {z : Nat × Nat} (hg : w1.heap[g]? = some (.cells cs t z)) (ht : t ∈ T) (hb : base ≤ g) (j : Nat) (u : Value) : Fr T mp base w (w1.setCell ⟨g, j, none⟩ u) :=
  ⟨h.below.setCell hb _, fun i o ho hs => by
    have h1 := h.same i o ho hs
    by_cases e : i = g
    · subst e
      rw [hg] at h1
      cases h1
      exact absurd ht hs
    · exact (Below.heap_setCell w1 ⟨g, j, none⟩ u i e).trans h1⟩
theorem Fr.keep (h : Fr T mp base w w1) {g t : Nat} {cs : Array Value} {z : Nat × Nat} (hg : w1.heap[g]? = some (.cells cs t z)) (ht : t ∈ T) (hb : Below base w1 w2) (k : KeepBut w1 w2 g none) : Fr T mp base w w2 :=
  ⟨h.below.trans hb, fun i o ho hs => by
    have h1 := h.same i o ho hs
    by_cases e : i = g
    · subst e
      rw [hg] at h1
      cases h1
      exact absurd ht hs
    · exact (k.2 i (blk_lt h1) e (by simp)).trans h1⟩
theorem Fr.grown (h : Fr T mp base w w1) {row : Option Nat} (hg : w1.grownBy w2 row) (hbase : base ≤ w1.heap.size) (hr : ∀ g, row = some g → base ≤ g ∧ ∀ o, w1.heap[g]? = some o → ¬ Still T mp o) : Fr T mp base w w2 :=
  ⟨h.below.grown hg hbase (fun g e => (hr g e).1), fun i o ho hs => by
    have h1 := h.same i o ho hs
    by_cases e : row = some i
    · exact absurd hs ((hr i e).2 o h1)
    · exact (hg.block i (blk_lt h1) (fun e1 => e e1.symm)).trans h1⟩
end

/-! ### the ledger -/
def ekey (k : Key) : Value := .agg #[.int .i64 k.1, .int .i64 k.2]
def eptr (g : Nat) : Value := .pointer (some ⟨g, 0, none⟩)
def domK (k : Key) : Prop := (0 ≤ k.1 ∧ k.1 ≤ 2147483647) ∧ (0 ≤ k.2 ∧ k.2 ≤ 2147483647)
theorem wf_num {n : Int} (h : 0 ≤ n ∧ n ≤ 2147483647) : (Lit.int .i64 n).wf = true := WalkArith.wf_i64 (by omega)
theorem law90 : Go.Maps.Keyed Try.prog 90 := Go.Maps.Keyed.of_law (deep_law_laid (by kernel_rfl) (m := 2) (by omega) (of_decide_eq_true (by kernel_rfl)) (by kernel_rfl) (by rw [Try.underlying90]))
theorem encK : Enc Try.prog 90 ekey domK where
  law := law90
  key := by
    rintro ⟨a, b⟩ ⟨ha, hb⟩
    have wa := wf_num ha
    have wb := wf_num hb
    have hk : Try.prog.keyType 90 = true := by kernel_rfl
    have hf : (ekey (a, b)).formed Try.prog 90 = true := by
      have hc : Try.prog.cellsOf 90 = 2 := by kernel_rfl
      simp [ekey, Value.formed, Try.underlying90, hc]
    have hts : ∃ m, Try.prog.types.size = m + 1 := ⟨162, by kernel_rfl⟩
    obtain ⟨mm, hm⟩ := hts
    unfold keyOf
    simp only [Try.underlying90]
    rw [if_pos (by simp [hk, hf]), hm]
    unfold Program.keyLits
    simp only [Try.underlying90, ekey, Value.cells]
    have hc90 : Try.prog.cellsOf 90 = 2 := by kernel_rfl
    have hc3 : Try.prog.cellsOf 3 = 1 := by kernel_rfl
    simp only [] at wa wb
    simp [Program.keyLits, Try.underlying3, hc90, hc3, wa, wb]
  inj := by
    rintro ⟨a, b⟩ ⟨c, d⟩ h
    simp only [ekey] at h
    injection h with h
    simp at h
    exact Prod.ext h.1 h.2

def effS (e : Eff) : S36 := ⟨e.undo, e.inst, e.turn, e.name⟩
/-- What the map's field holds. -/
def MapV (base : Nat) (w : World) (v : Value) (M : List (Key × Nat)) : Prop := (v = .map none ∧ M = []) ∨ ∃ b, v = .map (some b) ∧ base ≤ b ∧ MapIs ekey eptr domK w b M
structure LedAt (base : Nat) (w : World) (p : Nat) (S : St) (M : List (Key × Nat)) (ent : Nat → Ent) (mv ev : Value) : Prop where
  pb : base ≤ p
  blk : w.heap[p]? = some (.cells #[mv, ev] 44 (0, 0))
  map : MapV base w mv M
  L : S.L = M.map (fun q => (q.1, ent q.2))
  ents : ∀ q ∈ M, base ≤ q.2 ∧ w.heap[q.2]? = some (.cells (entCells (ent q.2)) 95 (0, 0))
  nodup : (M.map (·.2)).Nodup
  E : Kd.R k36 36 w base (fun _ => True) ev (S.E.map effS)
def IsLed (base : Nat) (w : World) (p : Nat) (S : St) : Prop := ∃ M ent mv ev, LedAt base w p S M ent mv ev

/-! ### how it is carried on -/
theorem R_fr {α : Type} {d : Kd α} {e : Nat} {w w1 : World} {base base' : Nat} {ok : Nat → Prop} {v : Value} {xs : List α} {T : List Nat} {mp : Bool} (h : d.R e w base ok v xs) (f : Fr T mp base' w w1) (ht : ∀ q, q ∈ e :: d.E → q ∉ T) : d.R e w1 base ok v xs :=
  Kd.R_mono (Kd.R_move (Kd.R_bound h) (fun k hk => by
    obtain ⟨_, _, _, q, hq, cells, hc⟩ := hk
    rw [hc]
    exact f.same k _ hc (ht q hq))) (fun _ hk => hk.1)
section
variable {T : List Nat} {mp : Bool} {base base' : Nat} {w w1 : World} {p : Nat} {S : St} {M : List (Key × Nat)} {ent : Nat → Ent} {mv ev : Value}
theorem MapV.fr (h : MapV base w mv M) (f : Fr T false base' w w1) : MapV base w1 mv M := by
  rcases h with h | ⟨b, hb, hl, hm⟩
  · exact .inl h
  · refine .inr ⟨b, hb, hl, ?_⟩
    obtain ⟨es, clock, hh, r⟩ := hm
    exact ⟨es, clock, f.same b _ hh rfl, r⟩
theorem LedAt.fr (h : LedAt base w p S M ent mv ev) (f : Fr T false base' w w1) (h1 : 44 ∉ T) (h2 : 95 ∉ T) (h3 : 36 ∉ T) : LedAt base w1 p S M ent mv ev where
  pb := h.pb
  blk := f.same p _ h.blk h1
  map := h.map.fr f
  L := h.L
  ents := fun q hq => ⟨(h.ents q hq).1, f.same q.2 _ (h.ents q hq).2 h2⟩
  nodup := h.nodup
  E := R_fr h.E f (fun q hq => by
    have : q = 36 := by simpa [k36, Kd.iso, Kd.pair, Kd.bool, Kd.int, Kd.string, Kd.scalar] using hq
    rw [this]; exact h3)
theorem MapV.dom (h : MapV base w mv M) : (∀ q ∈ M, domK q.1) ∧ (M.map (·.1)).Nodup := by
  rcases h with ⟨_, rfl⟩ | ⟨b, _, _, es, clock, _, _, hd, hn, _⟩
  · simp
  · exact ⟨hd, hn⟩
theorem MapV.lookup (h : MapV base w mv M) {k : Key} (hk : domK k) : (Instr.lookup 42 mv (ekey k) false).run Try.prog w = .ok (((mlook M k).map eptr).getD (.pointer none)) w := by
  have hz : (zeroValue 91).run Try.prog w = .ok (.pointer none) w := by kernel_rfl
  rcases h with ⟨rfl, rfl⟩ | ⟨b, rfl, _, hm⟩
  · exact lookup_nil encK Try.underlying42 hz hk false
  · exact hm.lookup encK Try.underlying42 hz hk false
theorem MapV.len (h : MapV base w mv M) (ty : TypeId) : (Builtin.len_ #[42] ty #[mv]).run Try.prog w = .ok (.int .i64 M.length) w := by
  rcases h with ⟨rfl, rfl⟩ | ⟨b, rfl, _, hm⟩
  · exact len_nil Try.underlying42 ty
  · exact hm.len Try.underlying42 ty
theorem LedAt.look (h : LedAt base w p S M ent mv ev) (k : Key) : mlook S.L k = (mlook M k).map ent := by
  rw [h.L]
  generalize M = N
  induction N with
  | nil => rfl
  | cons q N ih =>
    simp only [List.map_cons, mlook]
    split
    · rfl
    · exact ih
theorem mlook_mem {κ α : Type} [DecidableEq κ] {m : List (κ × α)} {x : κ} {v : α} (h : mlook m x = some v) : (x, v) ∈ m := by
  induction m with
  | nil => simp [mlook] at h
  | cons p m ih =>
    unfold mlook at h
    split at h
    · rename_i e
      cases h
      subst e
      exact List.mem_cons_self ..
    · exact List.mem_cons_of_mem _ (ih h)
/-- The entries behind a turn of one of them. -/
theorem ents_put {k : Key} {g : Nat} (x' : Ent) : ∀ (M : List (Key × Nat)), mlook M k = some g → (M.map (·.1)).Nodup → (M.map (·.2)).Nodup →
    mput (M.map (fun q => (q.1, ent q.2))) k x' = M.map (fun q => (q.1, if q.2 = g then x' else ent q.2))
  | [], h, _, _ => by simp [mlook] at h
  | q :: M, h, hk, hg => by
    rw [List.map_cons, List.nodup_cons] at hk hg
    simp only [List.map_cons, mput]
    by_cases e : q.1 = k
    · have hq : q.2 = g := by simpa [mlook, e] using h
      rw [if_pos e, if_pos hq, e]
      congr 1
      refine List.map_congr_left fun r hr => ?_
      have : r.2 ≠ g := fun e1 => hg.1 (by rw [hq, ← e1]; exact List.mem_map.2 ⟨r, hr, rfl⟩)
      rw [if_neg this]
    · have h' : mlook M k = some g := by simpa [mlook, e] using h
      have hq : q.2 ≠ g := fun e1 => hg.1 (by rw [e1]; exact List.mem_map.2 ⟨(k, g), mlook_mem h', rfl⟩)
      rw [if_neg e, if_neg hq, ents_put x' M h' hk.2 hg.2]
theorem LedAt.mem (h : LedAt base w p S M ent mv ev) {k : Key} {g : Nat} (hk : mlook M k = some g) : (k, g) ∈ M := mlook_mem hk
/-- An entry is written. -/
theorem LedAt.put (h : LedAt base w p S M ent mv ev) {k : Key} {g : Nat} (hk : mlook M k = some g) {x' : Ent} (hg : w1.heap[g]? = some (.cells (entCells x') 95 (0, 0))) (hkeep : KeepBut w w1 g none) :
    LedAt base w1 p ⟨mput S.L k x', S.E⟩ M (fun i => if i = g then x' else ent i) mv ev := by
  have hg0 := (h.ents _ (h.mem hk)).2
  have hne : ∀ (i : Nat) (o : Obj), w.heap[i]? = some o → (∀ cs z, o ≠ .cells cs 95 z) → w1.heap[i]? = some o := fun i o hi ho => by
    refine (hkeep.2 i (blk_lt hi) (fun e => ?_) (by simp)).trans hi
    subst e
    rw [hg0] at hi
    cases hi
    exact ho _ _ rfl
  refine ⟨h.pb, hne _ _ h.blk (fun _ _ e => by cases e), ?_, ?_, fun q hq => ⟨(h.ents q hq).1, ?_⟩, h.nodup, ?_⟩
  · rcases h.map with h1 | ⟨b, hb, hl, es, clock, hh, r⟩
    · exact .inl h1
    · exact .inr ⟨b, hb, hl, es, clock, hne _ _ hh (fun _ _ e => by cases e), r⟩
  · rw [h.L]
    exact ents_put x' M hk h.map.dom.2 h.nodup
  · by_cases e : q.2 = g
    · rw [e, if_pos rfl]; exact hg
    · rw [if_neg e]
      exact (hkeep.2 q.2 (blk_lt (h.ents q hq).2) e (by simp)).trans (h.ents q hq).2
  · refine Kd.R_mono (Kd.R_move (Kd.R_bound h.E) (fun i hi => ?_)) (fun _ hi => hi.1)
    obtain ⟨_, _, _, q, hq, cells, hc⟩ := hi
    have : q = 36 := by simpa [k36, Kd.iso, Kd.pair, Kd.bool, Kd.int, Kd.string, Kd.scalar] using hq
    subst this
    exact (hne _ _ hc (fun _ _ e => by cases e)).trans hc.symm
/-- A new entry. -/
theorem LedAt.new {w2 : World} (h : LedAt base w p S M ent mv ev) {k : Key} (hk : mlook M k = none) {g : Nat} (hfresh : w.heap.size ≤ g) (hbg : base ≤ g) {mv' : Value} (f : Fr [44] true base' w w2)
    (hp : w2.heap[p]? = some (.cells #[mv', ev] 44 (0, 0))) (hm : MapV base w2 mv' (mput M k g)) (hg : w2.heap[g]? = some (.cells (entCells ent0) 95 (0, 0))) :
    LedAt base w2 p ⟨mput S.L k ent0, S.E⟩ (mput M k g) (fun i => if i = g then ent0 else ent i) mv' ev := by
  have hnone := mlook_none.1 hk
  have hput : mput M k g = M ++ [(k, g)] := mput_new g hnone
  have hlt : ∀ q ∈ M, q.2 ≠ g := fun q hq e => by have := blk_lt (h.ents q hq).2; omega
  have hL : mput S.L k ent0 = S.L ++ [(k, ent0)] := mput_new _ (mlook_none.1 (by rw [h.look, hk]; rfl))
  refine ⟨h.pb, hp, hm, ?_, ?_, ?_, ?_⟩
  · show mput S.L k ent0 = _
    rw [hL, hput, List.map_append, h.L]
    congr 1
    · refine List.map_congr_left fun q hq => ?_
      rw [if_neg (hlt q hq)]
    · simp
  · intro q hq
    rw [hput] at hq
    rcases List.mem_append.1 hq with hq | hq
    · rw [if_neg (hlt q hq)]
      exact ⟨(h.ents q hq).1, f.same _ _ (h.ents q hq).2 (by simp [Still])⟩
    · rw [List.mem_singleton.1 hq]
      simp only [if_true]
      exact ⟨hbg, hg⟩
  · rw [hput, List.map_append, List.nodup_append]
    refine ⟨h.nodup, by simp, ?_⟩
    intro a ha b hb
    simp only [List.map_cons, List.map_nil, List.mem_singleton] at hb
    subst hb
    obtain ⟨q, hq, rfl⟩ := List.mem_map.1 ha
    exact hlt q hq
  · exact R_fr h.E f (fun q hq => by
      have : q = 36 := by simpa [k36, Kd.iso, Kd.pair, Kd.bool, Kd.int, Kd.string, Kd.scalar] using hq
      rw [this]; simp)
/-- One effect more. -/
theorem LedAt.eff {w2 : World} (h : LedAt base w p S M ent mv ev) {ev' : Value} {e : Eff} (f : Fr [44, 36] false base' w w2) (hp : w2.heap[p]? = some (.cells #[mv, ev'] 44 (0, 0))) (hE : Kd.R k36 36 w2 base (fun _ => True) ev' ((S.E ++ [e]).map effS)) :
    LedAt base w2 p ⟨S.L, S.E ++ [e]⟩ M ent mv ev' :=
  ⟨h.pb, hp, h.map.fr f, h.L, fun q hq => ⟨(h.ents q hq).1, f.same _ _ (h.ents q hq).2 (by simp [Still])⟩, h.nodup, hE⟩
end
end Go.Proofs.Ytdglbiafpofeeaa.Led
