/- The names of an expression, as the program answers them. -/
import Derived.Test.YtdhlbhkpleoicaaDoorExWalk
import Derived.Test.YtdhlbhkpleoicaaDoorExLayR
import Derived.Test.YtdhlbhkpleoicaaDoorExDocN
namespace Go.Proofs.YtdhlbhkpleoicaaDoor.Exp
open Go.RowKit Go.Proofs.YtdhlbhkpleoicaaDoorW.PrintWords Go.Proofs.YtdhlbhkpleoicaaDoorW.PrintLast Go.Proofs.YtdhlbhkpleoicaaDoorW.PrintMore Go.Proofs.YtdhlbhkpleoicaaDoor.PExprEvals
open Amap Frm Go.Shelf Go.Maps
set_option linter.unusedVariables false
set_option linter.unusedSimpArgs false
set_option maxRecDepth 100000
theorem fold_addk_len : ∀ (ns k : List ByteArray), (ns.foldl addk k).length ≤ k.length + ns.length
  | [], k => by simp
  | s :: ns, k => by
    rw [List.foldl_cons]
    have h := fold_addk_len ns (addk k s)
    have h2 : (addk k s).length ≤ k.length + 1 := by
      unfold addk
      split
      · omega
      · simp
    simp only [List.length_cons]
    omega
theorem nms_len : ∀ x, (nms x).length ≤ tot x := by
  intro x
  induction x <;> simp only [nms, tot, List.length_nil, List.length_cons, List.length_append] <;> omega
theorem ncame_len (x : Ex) (h : fmd x = true) : (ncame x).length ≤ 40 := by
  have h1 := fold_addk_len (nms x) []
  have h2 := nms_len x
  rw [fmd_eq] at h
  simp only [Bool.and_eq_true, decide_eq_true_eq] at h
  have h3 := h.1.1
  unfold ncame
  simp only [List.length_nil] at h1
  omega
def Rn : Value → Option (DataW Unit × List MemPlace) := fun _ => some (.nil, [])
def keyS : Value → List UInt8
  | .string a => a.data.toList
  | _ => []
theorem map_owns {w : World} {m : Nat} {l : List (ByteArray × Bool)} (h : MapIs sk bv domS w m l) (hl : l.length ≤ maxLen) : ∃ D0, w.ownsMap Tryd.prog 9 Rn m l.length D0 ∧ (strKeys D0).Perm (l.map fun p => p.1.toList) ∧ Maps.size D0 = l.length := by
  obtain ⟨es, clock, hb, he, hd, hn, hs⟩ := h
  have hlen : es.toList.length = l.length := by have := congrArg List.length he; simpa using this
  have hkey : ∀ x ∈ es.toList, ∃ p ∈ l, x.key = sk p.1 := fun x hx => by
    have : (x.key, x.val) ∈ l.map (fun p => (sk p.1, bv p.2)) := by rw [← he]; exact List.mem_map.2 ⟨x, hx, rfl⟩
    obtain ⟨p, hp, e⟩ := List.mem_map.1 this
    exact ⟨p, hp, (congrArg Prod.fst e).symm⟩
  have hrd : ∀ x ∈ es.toList, Go.WideElems.rd Tryd.prog 9 Rn x = some (.string (keyS x.key), .nil) := fun x hx => by
    obtain ⟨p, hp, e⟩ := hkey x hx
    unfold Go.WideElems.rd
    rw [e, show sk p.1 = .string p.1 from rfl, Go.WideMaps.keyOf_string_mk Tryd.underlying9 (domS_max (hd p hp))]
    rfl
  refine ⟨_, ⟨es, clock, hb, ⟨by rw [← Array.length_toList, hlen]; exact hl, hs, fun x hx => ⟨_, hrd x hx⟩⟩, by rw [← Array.length_toList, hlen]; exact Nat.le_refl _, rfl⟩, ?_, ?_⟩
  · show ((List.foldr DataW.insert [] (es.toList.map (Go.WideElems.rg Tryd.prog 9 Rn))).map fun p : Lit × DataW Unit => _root_.Go.strOf p.1).Perm _
    refine ((Go.WideShapes.sorted_perm _).map _).trans ?_
    rw [List.map_map]
    have e1 : es.toList.map ((fun p : Lit × DataW Unit => _root_.Go.strOf p.1) ∘ Go.WideElems.rg Tryd.prog 9 Rn) = (es.toList.map (fun e => (e.key, e.val))).map (fun q => keyS q.1) := by
      rw [List.map_map]
      refine List.map_congr_left fun x hx => ?_
      rw [Function.comp_apply, Function.comp_apply, Go.WideElems.rg_of (hrd x hx)]
      rfl
    rw [e1, he, List.map_map]
    exact List.Perm.of_eq (List.map_congr_left fun p _ => (ByteArray.toList_eq p.1).symm)
  · show (List.foldr DataW.insert [] (es.toList.map (Go.WideElems.rg Tryd.prog 9 Rn))).length = _
    rw [length_sorted, List.length_map, hlen]
theorem sortsA (m : Nat) : AnyZ.SortsIn Tryd.prog renS Fence.wide m :=
  ⟨fun blk off cap ss W hH hblk hsz => callsIn_wide.2 (AnyM.slices_Sort_string layM blk off cap ss W hH hblk hsz),
   fun p cap W => callsIn_wide.2 (AnyM.slices_Sort_string_none layM p cap W)⟩
theorem keys_calls (b : Nat) (W : World) : Calls Tryd.prog 30 #[.map (some b)] W fun e w' => e = .returned (.func (.func 46) #[] #[.pointer (some ⟨W.heap.size, 0, none⟩)]) ∧ w' = W.alloc (.cells #[.map (some b)] 64) :=
  (callsIn_wide (n := 5)).1 (AnyZ.keys_in layK Fence.wide 5 trivial rfl (some b) W)
theorem R_names {w : World} {base : Nat} {v : Value} (xs : List ByteArray) (h : w.ownsRow base 9 1 v xs.length (xs.map Value.string)) : Kd.R Kd.string 9 w base (fun _ => True) v xs := by
  refine ⟨fun _ _ => trivial, xs.map Value.string, h, by simp [Kd.string, Kd.scalar], fun j p hj => ?_⟩
  have hlt := (List.getElem?_eq_some_iff.1 hj).1
  show ((xs.map Value.string).drop (j * 1)).take 1 = [Value.string p]
  rw [Nat.mul_one, List.drop_eq_getElem_cons (by simpa using hlt)]
  simp only [List.take_succ_cons, List.take_zero, List.getElem_map]
  rw [(List.getElem?_eq_some_iff.1 hj).2]
theorem encStr_names (xs : List ByteArray) : (xs.map ByteArray.toList).map encStr = xs.map Value.string := by
  rw [List.map_map]
  refine List.map_congr_left fun s _ => ?_
  rw [Function.comp_apply, ByteArray.toList_eq]
theorem sorted_calls (x : Ex) (b : Nat) (l : List (ByteArray × Bool)) (w : World) (hm : MapIs sk bv domS w b l) (hl : l.length ≤ 1000) (hk : l.map (·.1) = ncame x) :
    Calls Tryd.prog 29 #[.func (.func 46) #[] #[.pointer (some ⟨w.heap.size, 0, none⟩)]] (w.alloc (.cells #[.map (some b)] 64)) fun e w' => ∃ v : Value, e = .returned v ∧ Kd.R Kd.string 9 w' w.heap.size (fun _ => True) v (nsort x) ∧ Below w.heap.size w w' := by
  have hmx0 : (1000 : Nat) ≤ maxLen := by decide
  obtain ⟨D0, hown, hperm, hsz⟩ := map_owns hm (by omega)
  have hml := hm.lt
  have hseq : SeqGives Fence.wide 2 Tryd.prog 46 #[.pointer (some ⟨w.heap.size, 0, none⟩)] encStr (fun ss => ss.Perm (strKeys D0)) (Maps.size D0) (w.alloc (.cells #[.map (some b)] 64)) :=
    AnyZ.keys_gives (ρ := renK) { layK with } Fence.wide _ trivial rfl (by omega) w.heap.size b l.length D0 _ (by simp) (by simp) (by
      obtain ⟨es, clock, hb, Ft, hs, hD⟩ := hown
      exact ⟨es, clock, (Below.heap_alloc _ _ b hml).trans hb, Ft, hs, hD⟩)
  have cS := AnyZ.sorted_in layS Fence.wide 5 trivial trivial trivial trivial rfl (by omega) (sortsA _) (enters_of Tryd.func45 (by kernel_rfl) rfl) 46 #[.pointer (some ⟨w.heap.size, 0, none⟩)] trivial (enters_of Tryd.func46 (by kernel_rfl) rfl) _ _ (by omega) (by omega) _ hseq
  refine ((callsIn_wide (n := 5)).1 cS).mono ?_
  rintro e w' ⟨v, ss, rfl, hS, hrow, hnil, hb⟩
  have h1 : ss.Perm ((ncame x).map ByteArray.toList) := by
    have := hS.trans hperm
    rw [← hk, List.map_map]
    exact this
  have h2 : ss.mergeSort (fun x y => decide (x ≤ y)) = (nsort x).map ByteArray.toList := (mergeSort_of_perm h1).trans (names_sorted x)
  have h3 : ss.length = (nsort x).length := by
    have := h1.length_eq
    rw [List.length_map, ← (names_perm x).length_eq] at this
    exact this
  rw [h2, encStr_names, h3] at hrow
  refine ⟨v, rfl, R_names _ (ownsRow_base_a hrow (by simp)), ((Below.refl _ w).alloc (Nat.le_refl _) _).trans (hb.mono (by simp))⟩
theorem run_store_func {a : Addr} {m : Mode} (f : Fn) (x y : Array Value) (w : World) : (store a (.func f x y) m).run Tryd.prog w = stored Tryd.prog w a (.func f x y) m := run_store Tryd.prog w a _ m rfl
attribute [local go_sem] run_store_func
set_option maxHeartbeats 4000000 in
theorem Refs_calls (x : Ex) (hs : shortN x) (w : World) : Calls Tryd.prog 17 #[enc x] w fun e w' => ∃ v : Value, e = .returned v ∧ Kd.R Kd.string 9 w' w.heap.size (fun _ => True) v (if fmd x = true then nsort x else []) ∧ Below w.heap.size w w' := by
  have hF := Aside0.mk (fun W => Formed_calls x W)
  have hlen := ncame_len x
  have hW := Aside0.mk (walk_tot w.heap.size (dep x + 1) x (by omega) hs)
  obtain ⟨fb, hfb⟩ : ∃ b, fmd x = b := ⟨_, rfl⟩
  rw [hfb] at hF hlen ⊢
  have hSo := Aside0.mk (fun b l W hm hl hk => sorted_calls x b l W hm hl hk)
  have hKe := Aside0.mk keys_calls
  clear hs hfb
  cases fb with
  | false =>
    rw [if_neg (by decide)]
    go_enter Tryd.func17, Tryd.ntmps17
    go_wp2_with (first
      | (go_at_call 13; (with_reducible refine (hF.out _).mono ?_); rintro e w1 ⟨rfl, hb1⟩; have hb1' := Aside0.mk hb1; clear hb1)
      | fail)
    go_ret
    exact ⟨_, rfl, Kd.R_nil _ _ _ _ _, hb1'.out⟩
  | true =>
    rw [if_pos rfl]
    have hlen' := Aside0.mk (hlen rfl)
    clear hlen
    have hmm := @run_makeMap Tryd.prog
    go_enter Tryd.func17, Tryd.ntmps17
    go_upto_region 5 with (first
      | (go_at_call 13; (with_reducible refine (hF.out _).mono ?_); rintro e w1 ⟨rfl, hb1⟩; have hb1' := Aside0.mk hb1; clear hb1)
      | fail)
    refine wp_world (fun W hW2 => ?_)
    have hX3 : W.heap[w1.heap.size + 1]? = some (.cells #[.map (some w1.heap.size)] 64 (0, 0)) := by rw [hW2]; exact blk_below (blk_new_at (by simp)) (below_alloc (Below.refl _ _) _)
    have hX4 : W.heap[w1.heap.size + 1 + 1]? = some (.cells #[.nilFunc] 65 (0, 0)) := by rw [hW2]; exact blk_new_at (by simp)
    have hm0 : MapIs sk bv domS W w1.heap.size [] := by
      have h0 := MapIs.made (ek := sk) (ev := bv) (dom := domS) w1
      refine h0.move ?_
      rw [hW2]
      exact Below.block (w := w1.alloc (.map #[] 0)) (below_alloc (below_alloc (Below.refl _ _) _) _) _ (by simp)
    have hBW : Aside0 (Below w.heap.size w W) := ⟨by rw [hW2]; exact below_alloc (below_alloc (below_alloc hb1'.out _) _) _⟩
    have hbase : w.heap.size ≤ w1.heap.size := hb1'.out.size
    obtain ⟨b, hb⟩ : ∃ b, w1.heap.size = b := ⟨_, rfl⟩
    rw [hb] at hX3 hX4 hm0 hbase
    rw [hb]
    clear hb hW2
    obtain ⟨p4, hp4⟩ : ∃ p, b + 1 + 1 = p := ⟨_, rfl⟩
    rw [hp4] at hX4
    rw [hp4]
    obtain ⟨p3, hp3⟩ : ∃ p, b + 1 = p := ⟨_, rfl⟩
    rw [hp3] at hX3
    rw [hp3]
    have hne : p3 ≠ p4 := by omega
    have hnb : b ≠ p4 := by omega
    have c4 : W.cell? ⟨p4, 0, none⟩ = some .nilFunc := (blk_cell hX4 0).trans rfl
    have f4 : W.frozen? ⟨p4, 0, none⟩ = false := blk_frozen hX4 0
    have l4 : p4 < W.heap.size := blk_lt hX4
    have hbp : Aside0 (w.heap.size ≤ p4) := ⟨by omega⟩
    have hX3' := Aside0.mk hX3
    have hX4' := Aside0.mk hX4
    have hm0' := Aside0.mk hm0
    have hne' := Aside0.mk hne
    have hnb' := Aside0.mk hnb
    have hbase' := Aside0.mk hbase
    clear hX3 hX4 hm0 hp3 hp4 hne hnb hbase
    go_upto_region 6 with fail
    refine wp_world (fun W2 hW3 => ?_)
    have hcap : Cap W2 b p3 p4 := ⟨by rw [hW3]; exact (Below.heap_setCell W ⟨p4, 0, none⟩ _ p3 hne'.out).trans hX3'.out, by rw [hW3]; exact blk_put hX4'.out 0 _ rfl⟩
    have hm1 : MapIs sk bv domS W2 b [] := hm0'.out.move (by rw [hW3]; exact Below.heap_setCell W ⟨p4, 0, none⟩ _ b hnb'.out)
    have hB2 : Below w.heap.size w W2 := by rw [hW3]; exact hBW.out.setCell hbp.out _
    have hcall := Aside0.mk (hW.out b p3 p4 [] W2 hB2.size hbase'.out hcap hm1)
    have e4 : W2.cell? ⟨p4, 0, none⟩ = some (.func (.func 27) #[] #[.pointer (some ⟨p3, 0, none⟩), .pointer (some ⟨p4, 0, none⟩)]) := (blk_cell hcap.2 0).trans rfl
    have k4 : p4 < W2.heap.size := blk_lt hcap.2
    have hcap' := Aside0.mk hcap
    have hB2' := Aside0.mk hB2
    clear hW3 hcap hm1 hB2 c4 f4 l4
    go_wp2_with (first
      | (go_at_call 27; (with_reducible refine hcall.out.mono ?_); rintro e w4 ⟨rfl, hf4, m4, hm4, hk4⟩; have hf4' := Aside0.mk hf4; have hm4' := Aside0.mk hm4; have hk4' : Aside0 (m4.map (·.1) = ncame x) := ⟨hk4⟩; have hml : Aside0 (m4.length ≤ 1000) := ⟨by have h1 := congrArg List.length hk4; have h2 := hlen'.out; unfold ncame at h2; simp only [List.length_map, List.map_nil] at h1; omega⟩; have hc4 := hcap'.out.fr hf4; have c3 : w4.cell? ⟨p3, 0, none⟩ = some (.map (some b)) := (blk_cell hc4.1 0).trans rfl; have l3 : p3 < w4.heap.size := blk_lt hc4.1; clear e4 k4 hf4 hm4 hk4 hc4)
      | (go_at_call 30; (with_reducible refine (hKe.out _ _).mono ?_); rintro e w5 ⟨rfl, rfl⟩)
      | (go_at_call 29; (with_reducible refine (hSo.out b m4 w4 hm4'.out hml.out hk4'.out).mono ?_); rintro e w6 ⟨v, rfl, hR6, hb6⟩; have hR6' := Aside0.mk hR6; have hb6' := Aside0.mk hb6; clear hR6 hb6)
      | fail)
    go_ret
    have hfin := hB2'.out.trans hf4'.out.below
    exact ⟨v, rfl, Kd.R_lower hR6'.out hfin.size, below_step hfin hb6'.out⟩
end Go.Proofs.YtdhlbhkpleoicaaDoor.Exp
