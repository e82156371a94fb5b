/- A region that draws its order: a load may be taken first if nobody writes its cell till number k has come up, and k waits for the load (through m). -/
import Derived.OrdersHeld
import Derived.RegionTactic
namespace Go.Proofs.Ytnplnelhodnonaa.Till
open Go
set_option linter.unusedVariables false
set_option linter.unusedSectionVars false
section
variable {P : Program} {ops : Array Oper} {Q : Exit → Act → World → Prop} {md : Region.Mode} {k : Nat} {C S0 : World → Prop}
/-- Whatever order is picked from here on; C holds behind each operation till k has come up. -/
def AnyT (P : Program) (md : Region.Mode) (ops : Array Oper) (Q : Exit → Act → World → Prop) (k : Nat) (C : World → Prop) : Nat → Array Bool → Act → World → Prop
  | 0, L, a, w => Region.ready md ops L = [] ∧ Q .normal a w
  | f + 1, L, a, w => (Region.ready md ops L = [] → Q .normal a w) ∧ ∀ i ∈ Region.ready md ops L, wpOp P ops Q i (fun a' w' => ((L.setIfInBounds i true).getD k true = false → C w') ∧ AnyT P md ops Q k C f (L.setIfInBounds i true) a' w') a w
theorem any_of : ∀ (f : Nat) (L : Array Bool) (a : Act) (w : World), AnyT P md ops Q k C f L a w → wpAny P md ops Q f L a w
  | 0, _, _, _, h => h
  | f + 1, _, _, _, h => ⟨h.1, fun i hi => wpOp_mono (fun a' w' h' => any_of f _ a' w' h'.2) (h.2 i hi)⟩
def waits (md : Region.Mode) (ops : Array Oper) (j i : Nat) : Bool := match ops[j]? with
  | some o => o.after.toList.any fun e => Region.binds md e && e.on == i
  | none => false
theorem not_ready {j i : Nat} {L : Array Bool} (h : waits md ops j i = true) (hi : L.getD i false = false) : j ∉ Region.ready md ops L := fun hr => by
  obtain ⟨_, o, ho, hall⟩ := mem_ready.1 hr
  unfold waits at h
  rw [ho] at h
  simp only [List.any_eq_true, Bool.and_eq_true, beq_iff_eq] at h
  obtain ⟨e, he, hb, rfl⟩ := h
  have := hall e (by simpa using he) hb
  rw [hi] at this
  cases this
theorem getD_ft {L : Array Bool} {i : Nat} (h : L.getD i true = false) : L.getD i false = false := by
  simp only [Array.getD_eq_getD_getElem?] at h ⊢
  cases hx : L[i]? with
  | none => simp [hx] at h
  | some b => simpa [hx] using h
/-- The law; I: what holds of the list while i has not come up. -/
theorem first {i : Nat} {oi : Oper} {v : Value} (I : Array Bool → Prop) (hI : ∀ L j, I L → L.getD i true = false → j ∈ Region.ready md ops L → j ≠ i → I (L.setIfInBounds j true)) (hS0 : ∀ L w, I L → (L.getD k true = false → C w) → S0 w) (hik : i ≠ k)
    (hi : ops[i]? = some oi) (hsel : ∀ (j : Nat) (o : Oper) cs b, ops[j]? = some o → o.op ≠ .select cs b) (hQ : ∀ c a w, Q (.panic c) (a.put oi.dst v) w → Q (.panic c) a w) :
    ∀ (f : Nat) (L : Array Bool) (a : Act) (w : World), I L →
      (∀ j oj, ops[j]? = some oj → j ≠ i → L.getD j true = false → (∀ e ∈ oj.after, Region.binds md e = true → e.on ≠ i) → oi.apart ops oj = true) →
      i ∈ Region.ready md ops L → YieldsIf P ops S0 oi v a → (L.getD k true = false → C w) →
      AnyT P md ops Q k C f (L.setIfInBounds i true) (a.put oi.dst v) w → AnyT P md ops Q k C (f + 1) L a w := by
  intro f
  induction f with
  | zero =>
    intro L a w hIL hr hri hy hS H
    refine ⟨fun h => (by rw [h] at hri; cases hri), fun j hj => ?_⟩
    by_cases hji : j = i
    · subst hji
      exact hy.wpOp hi (hS0 L w hIL hS) ⟨fun h => hS (by rw [getD_set_ne true hik] at h; exact h), H⟩
    · have := ready_mono hj hji
      rw [H.1] at this
      cases this
  | succ f ih =>
    intro L a w hIL hfree hri hy hS H
    refine ⟨fun h => (by rw [h] at hri; cases hri), fun j hj => ?_⟩
    by_cases hji : j = i
    · subst hji
      exact hy.wpOp hi (hS0 L w hIL hS) ⟨fun h => hS (by rw [getD_set_ne true hik] at h; exact h), H⟩
    · have h1 := H.2 j (ready_mono hj hji)
      have h0 := (mem_ready.1 hri).1
      obtain ⟨hjun, oj, hoj, hall⟩ := mem_ready.1 hj
      have hnot : ∀ e ∈ oj.after, Region.binds md e = true → e.on ≠ i := fun e he hb heq => by
        have h2 := hall e he hb
        rw [heq, getD_ft h0] at h2
        cases h2
      have h2 := wpOp_putIf hoj (hfree j oj hoj hji hjun hnot) (fun cs b => hsel i oi cs b hi) (fun cs b => hsel j oj cs b hoj) hQ hy h1
      have hfree' : ∀ x ox, ops[x]? = some ox → x ≠ i → (L.setIfInBounds j true).getD x true = false → (∀ e ∈ ox.after, Region.binds md e = true → e.on ≠ i) → oi.apart ops ox = true := fun x ox hx hxi hun hno => by
        refine hfree x ox hx hxi ?_ hno
        by_cases hjx : j = x
        · subst hjx
          exact hjun
        · rw [getD_set_ne true hjx] at hun
          exact hun
      refine wpOp_mono (fun a' w' h3 => ?_) h2
      have hC : (L.setIfInBounds j true).getD k true = false → C w' := fun hk => h3.2.1 (by
        rw [Array.setIfInBounds_comm _ _ (fun e => hji e.symm), getD_set_ne true hik]
        exact hk)
      refine ⟨hC, ih (L.setIfInBounds j true) a' w' (hI L j hIL h0 hj hji) hfree' (ready_mono hri (Ne.symm hji)) h3.1 hC ?_⟩
      rw [Array.setIfInBounds_comm _ _ hji]
      exact h3.2.2
/-- What yields in whatever world is taken first. -/
theorem pure_take {i : Nat} {oi : Oper} {v : Value} {f : Nat} {L : Array Bool} {a : Act} {w : World} (hi : ops[i]? = some oi)
    (hs : Region.noSelect ops = true) (hf : Region.free md ops L i = true) (hr : (Region.ready md ops L).contains i = true) (hik : i ≠ k)
    (hQ : ∀ c a w, Q (.panic c) (a.put oi.dst v) w → Q (.panic c) a w) (hy : YieldsIf P ops (fun _ => True) oi v a) (hC : L.getD k true = false → C w)
    (h : AnyT P md ops Q k C f (L.setIfInBounds i true) (a.put oi.dst v) w) : AnyT P md ops Q k C (f + 1) L a w :=
  first (fun _ => True) (fun _ _ _ _ _ _ => trivial) (fun _ _ _ _ => trivial) hik hi (Region.noSelect_spec hs) hQ f L a w trivial (Region.free_spec hi hf) (by simpa using hr) hy hC h
/-- A load is taken first: m waits for it, and k for m. -/
theorem load_take (m : Nat) {i : Nat} {oi : Oper} {v : Value} {f : Nat} {L : Array Bool} {a : Act} {w : World} (hi : ops[i]? = some oi)
    (hs : Region.noSelect ops = true) (hf : Region.free md ops L i = true) (hr : (Region.ready md ops L).contains i = true) (hik : i ≠ k)
    (hm : waits md ops m i = true) (hkm : waits md ops k m = true) (hLm : L.getD m true = false) (hLk : L.getD k true = false)
    (hQ : ∀ c a w, Q (.panic c) (a.put oi.dst v) w → Q (.panic c) a w) (hy : YieldsIf P ops C oi v a) (hC : C w)
    (h : AnyT P md ops Q k C f (L.setIfInBounds i true) (a.put oi.dst v) w) : AnyT P md ops Q k C (f + 1) L a w :=
  first (fun L => L.getD m true = false ∧ L.getD k true = false) (fun L j hL h0 hj hji => by
    have h1 : j ≠ m := fun e => not_ready hm (getD_ft h0) (e ▸ hj)
    have h2 : j ≠ k := fun e => not_ready hkm (getD_ft hL.1) (e ▸ hj)
    exact ⟨by rw [getD_set_ne true h1]; exact hL.1, by rw [getD_set_ne true h2]; exact hL.2⟩) (fun L w hL h => h hL.2) hik hi (Region.noSelect_spec hs) hQ f L a w ⟨hLm, hLk⟩ (Region.free_spec hi hf) (by simpa using hr) hy (fun _ => hC) h
/-- Number i comes up, alone or not. -/
def Step (P : Program) (md : Region.Mode) (ops : Array Oper) (Q : Exit → Act → World → Prop) (k : Nat) (C : World → Prop) (f : Nat) (L : Array Bool) (a : Act) (w : World) (rs : List Nat) : Prop :=
  ∀ i ∈ rs, wpOp P ops Q i (fun a' w' => ((L.setIfInBounds i true).getD k true = false → C w') ∧ AnyT P md ops Q k C f (L.setIfInBounds i true) a' w') a w
theorem all {rs : List Nat} {f : Nat} {L : Array Bool} {a : Act} {w : World} (hr : Region.ready md ops L = rs) (hne : rs ≠ []) (h : Step P md ops Q k C f L a w rs) : AnyT P md ops Q k C (f + 1) L a w :=
  ⟨fun h0 => absurd (hr ▸ h0) hne, hr ▸ h⟩
def Shut (p : Prop) : Prop := p
theorem Shut.out {p : Prop} (h : Shut p) : p := h
theorem Step.nil {f : Nat} {L : Array Bool} {a : Act} {w : World} : Step P md ops Q k C f L a w [] := fun _ h => by cases h
theorem Step.cons {f : Nat} {L : Array Bool} {a : Act} {w : World} {i : Nat} {o : Oper} {rs : List Nat} (ho : ops[i]? = some o)
    (h : ∀ K' : Act → World → Prop, Shut (∀ a w, ((L.setIfInBounds i true).getD k true = false → C w) → AnyT P md ops Q k C f (L.setIfInBounds i true) a w → K' a w) → if Region.wanted o (yielded ops a.tmps) = true then Oper.wp P o a w K' Q else K' (a.put o.dst undef) w)
    (hs : Step P md ops Q k C f L a w rs) : Step P md ops Q k C f L a w (i :: rs) := fun j hj => by
  rcases List.mem_cons.1 hj with rfl | hj
  · exact wpOp_step ho (fun K' hK => h K' (fun a w hC hT => hK a w ⟨hC, hT⟩))
  · exact hs j hj
theorem done {L : Array Bool} {a : Act} {w : World} (hr : Region.ready md ops L = []) (h : Q .normal a w) : ∀ f, AnyT P md ops Q k C f L a w
  | 0 => ⟨hr, h⟩
  | _ + 1 => ⟨fun _ => h, by rw [hr]; simp⟩
theorem start (k : Nat) (C : World → Prop) {id : Nat} {a : Act} {w : World} (hm : P.follows .mixedOrders = true) (h : AnyT P .any ops Q k C ops.size (Array.replicate ops.size false) a w.drew) : (Code.region id ops true).wp P Q a w :=
  wp_region_any hm (any_of _ _ _ _ h)
end
end Go.Proofs.Ytnplnelhodnonaa.Till
