/- The document's functions of trees, as they are printed: formed ones. -/
import Derived.Test.YtjghlomkimoeoaaTrP
namespace Go.Proofs.Ytjghlomkimoeoaa.Tr
open Go.RowKit Go.Proofs.YtjghlomkimoeoaaW.PrintWords Go.Proofs.YtjghlomkimoeoaaW.PrintLast Go.Proofs.YtjghlomkimoeoaaW.PrintMore Go.Proofs.Ytjghlomkimoeoaa.PConfigAsks
set_option linter.unusedVariables false
set_option linter.unusedSimpArgs false
def shr (l : List S140) : Sh := ⟨l.length, fun i => (rd_T140 l i).f1, fun i => (rd_T140 l i).f2, fun i => (rd_T140 l i).f3, fun i => (rd_T140 l i).f6, fun i => (rd_T140 l i).f4⟩
theorem decide_congr' {p q : Prop} [Decidable p] [Decidable q] (h : p ↔ q) : decide p = decide q := by
  by_cases hp : p
  · rw [decide_eq_true hp, decide_eq_true (h.mp hp)]
  · rw [decide_eq_false hp, decide_eq_false fun hq => hp (h.mpr hq)]
def memI (c : List Nat) (j : Int) : Bool := c.any fun p => decide ((p : Int) = j)
theorem memI_cons (p : Nat) (c : List Nat) (j : Int) : memI (p :: c) j = (decide ((p : Int) = j) || memI c j) := rfl
theorem memI_iff {c : List Nat} {j : Int} : memI c j = true ↔ ∃ p ∈ c, (p : Int) = j := by
  unfold memI
  rw [List.any_eq_true]
  simp only [decide_eq_true_eq]
theorem lies_at (l : List S140) (j : Int) : ∀ i : Nat, i < l.length →
    ∃ b, Ev (fun k => tumbrelref09_lies.l0 k l (i : Int) j (rd_T140 l i).f1) b ∧ ((∀ m, m ≤ i → ok (shr l) m) → b = memI (anc (shr l) i) j) := by
  intro i
  induction i using Nat.strongRecOn with
  | _ i ih =>
    intro hi
    have hpar : (shr l).par i = (rd_T140 l i).f1 := rfl
    by_cases h0 : 0 ≤ (rd_T140 l i).f1
    · by_cases h1 : (rd_T140 l i).f1 < (i : Int)
      · obtain ⟨p, hp⟩ : ∃ p : Nat, (rd_T140 l i).f1 = p := ⟨(rd_T140 l i).f1.toNat, by omega⟩
        have hpi : p < i := by omega
        have hanc : (∀ m, m ≤ i → ok (shr l) m) → anc (shr l) i = p :: anc (shr l) p := fun hok => by
          rcases ok_cases (shr l) (hok i (Nat.le_refl _)) with h2 | ⟨q, hq, _, h2⟩
          · have := h2.1
            omega
          · rw [h2, show q = p by omega]
        by_cases hj : (p : Int) = j
        · refine ⟨true, ⟨2, fun k hk => ?_⟩, fun hok => ?_⟩
          · obtain ⟨k, rfl⟩ : ∃ m, k = m + 2 := ⟨k - 2, by omega⟩
            dsimp only
            rw [tumbrelref09_lies.l0, if_pos (by omega), tumbrelref09_lies.j1, if_pos (decide_eq_true (by omega)), if_pos (by omega)]
          · rw [hanc hok, memI_cons, decide_eq_true hj]
            rfl
        · obtain ⟨b, ⟨K, hK⟩, hb⟩ := ih p hpi (by omega)
          refine ⟨b, ⟨K + 2, fun k hk => ?_⟩, fun hok => ?_⟩
          · obtain ⟨k, rfl⟩ : ∃ m, k = m + 2 := ⟨k - 2, by omega⟩
            dsimp only
            rw [tumbrelref09_lies.l0, if_pos (by omega), tumbrelref09_lies.j1, if_pos (decide_eq_true (by omega)), if_neg (by omega), if_pos (by omega), if_pos (by omega), hp]
            exact hK k (by omega)
          · rw [hanc hok, memI_cons, decide_eq_false hj, Bool.false_or]
            exact hb fun m hm => hok m (by omega)
      · refine ⟨false, ⟨2, fun k hk => ?_⟩, fun hok => ?_⟩
        · obtain ⟨k, rfl⟩ : ∃ m, k = m + 2 := ⟨k - 2, by omega⟩
          dsimp only
          rw [tumbrelref09_lies.l0, if_pos (by omega), tumbrelref09_lies.j1, if_neg (by rw [decide_eq_false h1]; decide)]
        · exfalso
          rcases ok_cases (shr l) (hok i (Nat.le_refl _)) with h2 | ⟨q, hq, hqi, h2⟩
          · have := h2.1
            omega
          · omega
    · refine ⟨false, ⟨2, fun k hk => ?_⟩, fun hok => ?_⟩
      · obtain ⟨k, rfl⟩ : ∃ m, k = m + 2 := ⟨k - 2, by omega⟩
        dsimp only
        rw [tumbrelref09_lies.l0, if_neg (by omega), tumbrelref09_lies.j1, if_neg (by decide)]
      · rcases ok_cases (shr l) (hok i (Nat.le_refl _)) with h2 | ⟨q, hq, hqi, h2⟩
        · rw [h2.2]
          rfl
        · omega
theorem lies_ev (l : List S140) (i : Nat) (hi : i < l.length) (j : Int) : ∃ b, Ev (fun k => tumbrelref09_lies.f k l (i : Int) j) b ∧ ((∀ m, m ≤ i → ok (shr l) m) → b = memI (anc (shr l) i) j) := by
  obtain ⟨b, h, hb⟩ := lies_at l j i hi
  refine ⟨b, Ev.congr (fun k => ?_) h, hb⟩
  rw [tumbrelref09_lies.f, if_pos (by omega), if_pos (by omega)]
theorem up_ok (l : List S140) (i : Nat) (hi : i < l.length) (n14 : Int) (hok : ∀ m, m < i → ok (shr l) m) : ∀ (c : List Nat) (b : Bool) (x : Int), isChain (shr l) x c → (∀ p ∈ c, p < i) → ∀ r,
    Ev (fun k => tumbrelref09_Formed.j2 k l (i : Int) (b || memI c (rd_T140 l i).f1) (l.length : Int) n14) r → Ev (fun k => tumbrelref09_Formed.l1 k l (i : Int) b x (l.length : Int) n14) r
  | [], b, x, hc, hlt, r, h => by
    rcases hc with ⟨rfl, _⟩ | ⟨p, _, h2⟩
    · obtain ⟨K, hK⟩ := h
      refine ⟨K + 1, fun k hk => ?_⟩
      obtain ⟨k, rfl⟩ : ∃ m, k = m + 1 := ⟨k - 1, by omega⟩
      dsimp only
      rw [tumbrelref09_Formed.l1, if_neg (by decide)]
      have := hK k (by omega)
      simpa [memI] using this
    · cases h2
  | q :: c, b, x, hc, hlt, r, h => by
    rcases hc with ⟨_, h2⟩ | ⟨p, rfl, h2⟩
    · cases h2
    · have hq : q = p := by injection h2
      have hcc : c = anc (shr l) p := by injection h2
      subst hq
      have hqi := hlt q (List.mem_cons_self ..)
      cases b with
      | true =>
        obtain ⟨K, hK⟩ := h
        refine ⟨K + 1, fun k hk => ?_⟩
        obtain ⟨k, rfl⟩ : ∃ m, k = m + 1 := ⟨k - 1, by omega⟩
        dsimp only
        rw [tumbrelref09_Formed.l1, if_pos (by omega), if_pos rfl]
        exact hK k (by omega)
      | false =>
        have hch : isChain (shr l) (rd_T140 l q).f1 c := by
          rw [hcc]
          exact chain_par (hok q hqi)
        have e : ((rd_T140 l i).f1 == (q : Int)) = decide ((q : Int) = (rd_T140 l i).f1) := by
          by_cases hh : (rd_T140 l i).f1 = (q : Int)
          · simp [hh]
          · have : ¬ ((q : Int) = (rd_T140 l i).f1) := fun e => hh e.symm
            simp [hh, this]
        obtain ⟨K, hK⟩ := up_ok l i hi n14 hok c ((rd_T140 l i).f1 == (q : Int)) (rd_T140 l q).f1 hch (fun p hp => hlt p (List.mem_cons_of_mem _ hp)) r (by
          rw [memI_cons, Bool.false_or, ← e] at h
          exact h)
        refine ⟨K + 1, fun k hk => ?_⟩
        obtain ⟨k, rfl⟩ : ∃ m, k = m + 1 := ⟨k - 1, by omega⟩
        dsimp only
        rw [tumbrelref09_Formed.l1, if_pos (by omega), if_neg (by decide), if_pos (by omega), if_pos (by omega), if_pos (by omega), if_pos (by omega)]
        exact hK k (by omega)
theorem up_dep (l : List S140) (i : Nat) (hi : i < l.length) (n14 : Int) (hl : l.length ≤ 40) (hok : ∀ m, m < i → ok (shr l) m) : ∀ (c : List Nat) (d : Nat) (x : Int), isChain (shr l) x c → (∀ p ∈ c, p < i) → d + c.length ≤ 1000 → ∀ r,
    Ev (fun k => tumbrelref09_Formed.l3 k l (i : Int) ((d + c.length : Nat) : Int) ((i + 1 : Nat) : Int) (l.length : Int) n14) r → Ev (fun k => tumbrelref09_Formed.l2 k l (i : Int) (d : Int) x (l.length : Int) n14) r
  | [], d, x, hc, hlt, hd, r, h => by
    rcases hc with ⟨rfl, _⟩ | ⟨p, _, h2⟩
    · obtain ⟨K, hK⟩ := h
      refine ⟨K + 1, fun k hk => ?_⟩
      obtain ⟨k, rfl⟩ : ∃ m, k = m + 1 := ⟨k - 1, by omega⟩
      dsimp only
      rw [tumbrelref09_Formed.l2, if_neg (by decide), wsucc (by omega)]
      exact hK k (by omega)
    · cases h2
  | q :: c, d, x, hc, hlt, hd, r, h => by
    rcases hc with ⟨_, h2⟩ | ⟨p, rfl, h2⟩
    · cases h2
    · have hq : q = p := by injection h2
      have hcc : c = anc (shr l) p := by injection h2
      subst hq
      have hqi := hlt q (List.mem_cons_self ..)
      rw [List.length_cons] at hd
      obtain ⟨K, hK⟩ := up_dep l i hi n14 hl hok c (d + 1) (rd_T140 l q).f1 (by rw [hcc]; exact chain_par (hok q hqi)) (fun p hp => hlt p (List.mem_cons_of_mem _ hp)) (by omega) r (by
        rw [List.length_cons] at h
        rw [show d + 1 + c.length = d + (c.length + 1) by omega]
        exact h)
      refine ⟨K + 1, fun k hk => ?_⟩
      obtain ⟨k, rfl⟩ : ∃ m, k = m + 1 := ⟨k - 1, by omega⟩
      dsimp only
      rw [tumbrelref09_Formed.l2, if_pos (by omega), if_pos (by omega), if_pos (by omega), wsucc (by omega)]
      exact hK k (by omega)
def fin (l : List S140) (i d e : Nat) (r : Bool) : Bool := if (rd_T140 l i).f2 = (d : Int) ∧ (rd_T140 l i).f3 = (e : Int) ∧ (rd_T140 l i).f6 = decide ((e : Int) = (i : Int) + 1) then r else false
theorem fin_if (l : List S140) (i d e : Nat) (r : Bool) (hi : i < 1000) (X : Option Bool) (hX : X = some r) :
    (if (rd_T140 l i).f2 = (d : Int) then (if (rd_T140 l i).f3 = (e : Int) then (if ((rd_T140 l i).f6 != ((e : Int) == (wrap64 ((i : Int) + 1)))) = true then (some false) else X) else (some false)) else (some false)) = some (fin l i d e r) := by
  rw [wsucc (by omega), hX]
  unfold fin
  generalize (rd_T140 l i).f2 = a
  generalize (rd_T140 l i).f3 = b
  generalize (rd_T140 l i).f6 = f
  have he : ((e : Int) == ((i + 1 : Nat) : Int)) = decide ((e : Int) = (i : Int) + 1) := by
    rw [show ((i + 1 : Nat) : Int) = (i : Int) + 1 from by omega]
    by_cases h : (e : Int) = (i : Int) + 1
    · simp [h]
    · simp [h]
  rw [he]
  generalize decide ((e : Int) = (i : Int) + 1) = g
  by_cases c1 : a = (d : Int) <;> by_cases c2 : b = (e : Int) <;> cases f <;> cases g <;> simp [c1, c2]
theorem behind_ev (l : List S140) (i d : Nat) (hi : i < l.length) (hl : l.length ≤ 40) : ∀ (n b : Nat), b + n = l.length → i < b →
    ∃ e : Nat, b ≤ e ∧ e ≤ l.length ∧ (∀ r, Ev (fun k => tumbrelref09_Formed.l0 k l (l.length : Int) ((i + 1 : Nat) : Int)) r → Ev (fun k => tumbrelref09_Formed.l3 k l (i : Int) (d : Int) (b : Int) (l.length : Int) (i : Int)) (fin l i d e r)) ∧
      ((∀ m, m < l.length → ok (shr l) m) → i ∈ stk (shr l) b → isB (shr l) i e)
  | 0, b, hb, hib => by
    refine ⟨b, Nat.le_refl _, by omega, fun r ⟨K, hK⟩ => ⟨K + 1, fun k hk => ?_⟩, fun hok hm => ⟨hib, by show b ≤ l.length; omega, hm, .inl (by show b = l.length; omega)⟩⟩
    obtain ⟨k, rfl⟩ : ∃ m, k = m + 1 := ⟨k - 1, by omega⟩
    dsimp only
    rw [tumbrelref09_Formed.l3, if_neg (by omega), if_pos (by omega), if_pos (by omega)]
    exact fin_if l i d b r (by omega) _ (by rw [wsucc (by omega)]; exact hK k (by omega))
  | n + 1, b, hb, hib => by
    obtain ⟨v, ⟨K1, hv⟩, hv2⟩ := lies_ev l b (by omega) (i : Int)
    dsimp only at hv
    cases v with
    | true =>
      obtain ⟨e, h1, h2, h3, h4⟩ := behind_ev l i d hi hl n (b + 1) (by omega) (by omega)
      refine ⟨e, by omega, h2, fun r hr => ?_, fun hok hm => h4 hok ?_⟩
      · obtain ⟨K, hK⟩ := h3 r hr
        refine ⟨K1 + K + 1, fun k hk => ?_⟩
        obtain ⟨k, rfl⟩ : ∃ m, k = m + 1 := ⟨k - 1, by omega⟩
        dsimp only
        rw [tumbrelref09_Formed.l3, if_pos (by omega), hv k (by omega), Option.bind_some, if_pos rfl, wsucc (by omega)]
        exact hK k (by omega)
      · have h5 := hv2 fun m hm => hok m (by omega)
        obtain ⟨p, hp, he⟩ := memI_iff.mp h5.symm
        rw [stk_succ]
        refine List.mem_cons_of_mem _ ?_
        rw [show i = p by omega]
        exact hp
    | false =>
      refine ⟨b, Nat.le_refl _, by omega, fun r ⟨K, hK⟩ => ⟨K1 + K + 1, fun k hk => ?_⟩, fun hok hm => ⟨hib, by show b ≤ l.length; omega, hm, .inr fun hmem => ?_⟩⟩
      · obtain ⟨k, rfl⟩ : ∃ m, k = m + 1 := ⟨k - 1, by omega⟩
        dsimp only
        rw [tumbrelref09_Formed.l3, if_pos (by omega), hv k (by omega), Option.bind_some, if_neg (by decide), if_pos (by omega), if_pos (by omega)]
        exact fin_if l i d b r (by omega) _ (by rw [wsucc (by omega)]; exact hK k (by omega))
      · have h5 := hv2 fun m hm => hok m (by omega)
        have h6 := memI_iff.mpr ⟨i, hmem, rfl⟩
        rw [← h5] at h6
        cases h6
theorem rformed_from (l : List S140) (hl : l.length ≤ 40) : ∀ (n i : Nat), i + n = l.length → (∀ m, m < i → ok (shr l) m) →
    ∃ r, Ev (fun k => tumbrelref09_Formed.l0 k l (l.length : Int) (i : Int)) r ∧ (r = true ↔ ∀ m, i ≤ m → m < l.length → chk (shr l) m)
  | 0, i, hn, hok => by
    refine ⟨true, ⟨1, fun k hk => ?_⟩, ⟨fun _ m h1 h2 => by omega, fun _ => rfl⟩⟩
    obtain ⟨k, rfl⟩ : ∃ m, k = m + 1 := ⟨k - 1, by omega⟩
    dsimp only
    rw [tumbrelref09_Formed.l0, if_neg (by omega)]
  | n + 1, i, hn, hok => by
    have hi : i < l.length := by omega
    have hstk : ∀ p ∈ stk (shr l) i, p < i := fun p hp => stk_lt (shr l) hp
    have hbase : ∀ r, Ev (fun k => tumbrelref09_Formed.j2 k l (i : Int) (((rd_T140 l i).f1 == -1) || memI (stk (shr l) i) (rd_T140 l i).f1) (l.length : Int) (i : Int)) r → Ev (fun k => tumbrelref09_Formed.l0 k l (l.length : Int) (i : Int)) r := fun r hr => by
      obtain ⟨K, hK⟩ := up_ok l i hi (i : Int) hok (stk (shr l) i) ((rd_T140 l i).f1 == -1) ((i : Int) - 1) (chain_prev i) hstk r hr
      refine ⟨K + 1, fun k hk => ?_⟩
      obtain ⟨k, rfl⟩ : ∃ m, k = m + 1 := ⟨k - 1, by omega⟩
      dsimp only
      rw [tumbrelref09_Formed.l0, if_pos (by omega), if_pos (by omega), if_pos (by omega), show wrap64 ((i : Int) - 1) = (i : Int) - 1 by unfold wrap64; omega]
      exact hK k (by omega)
    by_cases hoki : ok (shr l) i
    · have hb : (((rd_T140 l i).f1 == -1) || memI (stk (shr l) i) (rd_T140 l i).f1) = true := by
        rcases hoki with h1 | ⟨p, hp, he⟩
        · have : (rd_T140 l i).f1 = -1 := h1
          simp [this]
        · have h9 : memI (stk (shr l) i) (rd_T140 l i).f1 = true := memI_iff.mpr ⟨p, hp, he⟩
          rw [h9, Bool.or_true]
      rw [hb] at hbase
      obtain ⟨r, hr, hri⟩ := rformed_from l hl n (i + 1) (by omega) fun m hm => by
        by_cases hmi : m = i
        · subst hmi
          exact hoki
        · exact hok m (by omega)
      have hancl : (anc (shr l) i).length ≤ i := by
        have h1 : ∀ (s : List Nat) (m : Nat), s.Pairwise (· > ·) → (∀ x ∈ s, x < m) → s.length ≤ m := by
          intro s
          induction s with
          | nil => intro m _ _; exact Nat.zero_le _
          | cons a s ih =>
            intro m hp hm
            obtain ⟨h2, h3⟩ := List.pairwise_cons.mp hp
            have := ih a h3 h2
            have := hm a (List.mem_cons_self ..)
            rw [List.length_cons]
            omega
        exact h1 _ _ (anc_pw i) fun x hx => anc_lt _ hx
      obtain ⟨e, h1, h2, h3, h4⟩ := behind_ev l i (anc (shr l) i).length hi hl n (i + 1) (by omega) (by omega)
      refine ⟨fin l i (anc (shr l) i).length e r, hbase _ ?_, ?_⟩
      · obtain ⟨K, hK⟩ := up_dep l i hi (i : Int) hl hok (anc (shr l) i) 0 (rd_T140 l i).f1 (chain_par hoki) (fun p hp => anc_lt _ hp) (by omega) _ (by rw [Nat.zero_add]; exact h3 r hr)
        refine ⟨K + 1, fun k hk => ?_⟩
        obtain ⟨k, rfl⟩ : ∃ m, k = m + 1 := ⟨k - 1, by omega⟩
        dsimp only
        rw [tumbrelref09_Formed.j2, if_pos rfl, if_pos (by omega), if_pos (by omega)]
        exact hK k (by omega)
      · unfold fin
        constructor
        · intro hf
          split at hf
          · rename_i hc
            obtain ⟨c1, c2, c3⟩ := hc
            have hall := hri.mp hf
            have hokall : ∀ m, m < l.length → ok (shr l) m := fun m hm => by
              by_cases h5 : m < i
              · exact hok m h5
              · by_cases h6 : m = i
                · subst h6
                  exact hoki
                · exact (hall m (by omega) hm).1
            have hB := h4 hokall (by rw [stk_succ]; exact List.mem_cons_self ..)
            intro m hm1 hm2
            by_cases h6 : m = i
            · subst h6
              refine ⟨hoki, c1, ?_, e, c2, hB⟩
              show (rd_T140 l m).f6 = decide ((rd_T140 l m).f3 = (m : Int) + 1)
              rw [c2, c3]
            · exact hall m (by omega) hm2
          · cases hf
        · intro hall
          have hr2 := hri.mpr fun m hm1 hm2 => hall m (by omega) hm2
          have hokall : ∀ m, m < l.length → ok (shr l) m := fun m hm => by
            by_cases h5 : m < i
            · exact hok m h5
            · exact (hall m (by omega) hm).1
          have hB := h4 hokall (by rw [stk_succ]; exact List.mem_cons_self ..)
          obtain ⟨_, c1, c3, b, c2, hB2⟩ := hall i (Nat.le_refl _) hi
          have hbe := isB_one _ hB2 hB
          subst hbe
          have c2' : (rd_T140 l i).f3 = (b : Int) := c2
          have c3' : (rd_T140 l i).f6 = decide ((rd_T140 l i).f3 = (i : Int) + 1) := c3
          rw [c2'] at c3'
          rw [if_pos ⟨c1, c2', c3'⟩]
          exact hr2
    · have hb : (((rd_T140 l i).f1 == -1) || memI (stk (shr l) i) (rd_T140 l i).f1) = false := by
        cases hh : (((rd_T140 l i).f1 == -1) || memI (stk (shr l) i) (rd_T140 l i).f1) with
        | false => rfl
        | true =>
          exfalso
          rcases (Bool.or_eq_true _ _).mp hh with h1 | h1
          · have h9 : (rd_T140 l i).f1 = -1 := by simpa using h1
            exact hoki (.inl h9)
          · exact hoki (.inr (memI_iff.mp h1))
      rw [hb] at hbase
      refine ⟨false, hbase _ ⟨1, fun k hk => ?_⟩, ⟨fun h => (by cases h), fun h => absurd (h i (Nat.le_refl _) hi).1 hoki⟩⟩
      obtain ⟨k, rfl⟩ : ∃ m, k = m + 1 := ⟨k - 1, by omega⟩
      dsimp only
      rw [tumbrelref09_Formed.j2, if_neg (by decide)]
theorem rFormed_ev (l : List S140) : Ev (fun k => tumbrelref09_Formed.f k l) (formedB (shr l)) := by
  by_cases h : 40 < l.length
  · have : formedB (shr l) = false := by
      unfold formedB
      rw [if_pos (show 40 < (shr l).n from h)]
    rw [this]
    refine ⟨0, fun k _ => ?_⟩
    show tumbrelref09_Formed.f k l = _
    unfold tumbrelref09_Formed.f
    rw [if_pos (by omega)]
  · obtain ⟨r, ⟨K, hK⟩, hr⟩ := rformed_from l (by omega) l.length 0 (by omega) fun m hm => by omega
    have hrb : r = formedB (shr l) := by
      have h1 : r = true ↔ formedB (shr l) = true := by
        rw [hr, formedB_iff, wf_chk]
        exact ⟨fun h2 => ⟨by show l.length ≤ 40; omega, fun i hi => h2 i (Nat.zero_le _) hi⟩, fun h2 m _ hm => h2.2 m hm⟩
      cases r <;> cases hb : formedB (shr l) <;> simp_all
    refine ⟨K, fun k hk => ?_⟩
    show tumbrelref09_Formed.f k l = _
    unfold tumbrelref09_Formed.f
    rw [if_neg (by omega), ← hrb]
    exact hK k hk
end Go.Proofs.Ytjghlomkimoeoaa.Tr
