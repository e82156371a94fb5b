/- slices.SortFunc over keys, by Take's closure: the shelf's contract; of no element: walked. -/
import Derived.Test.YtdfghndcengkaaaTmStep
namespace Go.Proofs.Ytdfghndcengkaaa.Tmr
open Go.RowKit Go.Proofs.YtdfghndcengkaaaW.PrintWords Go.Proofs.YtdfghndcengkaaaW.PrintLast Go.Proofs.YtdfghndcengkaaaW.PrintMore Go.Proofs.Ytdfghndcengkaaa.PTimersPlay
open Amap Frm Go.Shelf
set_option linter.unusedVariables false
set_option linter.unusedSimpArgs false
set_option maxHeartbeats 2000000 in
set_option maxRecDepth 100000 in
theorem ins_none (A : Option Addr) (cap : Nat) (fv : Value) (w : World) : Calls Try.prog 33 #[.slice A 0 cap, .int .i64 0, .int .i64 0, fv] w fun e w' => e = .returned (.tuple #[]) ∧ w' = w := by
  go_enter Try.func33, Try.ntmps33
  go_wp2
  refine wp_loop_rounds 1 ?_
  rw [rounds_succ]
  go_wp2
  go_end0
  exact ⟨rfl, rfl⟩
set_option maxHeartbeats 2000000 in
set_option maxRecDepth 100000 in
theorem pdq_none (A : Option Addr) (cap : Nat) (lim : Int) (fv : Value) (w : World) : Calls Try.prog 27 #[.slice A 0 cap, .int .i64 0, .int .i64 0, .int .i64 lim, fv] w fun e w' => e = .returned (.tuple #[]) ∧ w' = w := by
  go_enter Try.func27, Try.ntmps27
  go_wp2
  refine wp_loop_rounds 1 ?_
  rw [rounds_succ]
  go_wp2_with (first | (go_at_call 33; (with_reducible refine (ins_none _ _ _ _).mono ?_); rintro e w' ⟨rfl, rfl⟩) | go_in)
  (try simp only [Exit.inBlock, Exit.then]); refine bodyPost_ret (results_none rfl _ _ _) rfl ?_
  exact ⟨rfl, rfl⟩
set_option maxHeartbeats 2000000 in
set_option maxRecDepth 100000 in
theorem sort_none (A : Option Addr) (cap : Nat) (fv : Value) (w : World) : Calls Try.prog 19 #[.slice A 0 cap, fv] w fun e w' => e = .returned (.tuple #[]) ∧ w' = w := by
  have hl : ∀ W, Calls Try.prog 28 #[.int .u64 0] W fun e w' => e = .returned (.int .i64 (Lib.bitLen 0 : Nat)) ∧ w' = W := fun W => by
    have h := Any.bits_Len (SlLaysF0.n15.bits (P := Try.prog) (ρ := renF) { layF with }) 0 W (by omega) (by omega)
    exact h
  go_enter Try.func19, Try.ntmps19
  go_wp2_with (first | (go_at_call 28; (with_reducible refine (hl _).mono ?_); rintro e w' ⟨rfl, rfl⟩) | (go_at_call 27; (with_reducible refine (pdq_none _ _ _ _ _).mono ?_); rintro e w' ⟨rfl, rfl⟩) | go_in)
  go_end0
  exact ⟨rfl, rfl⟩
theorem lift_keys : ∀ Ks : List ByteArray, (∀ k ∈ Ks, domS k) → ∃ ds : List Ky, ds.map (·.1) = Ks
  | [], _ => ⟨[], rfl⟩
  | k :: Ks, h => by
    obtain ⟨ds, hds⟩ := lift_keys Ks (fun x hx => h x (List.mem_cons_of_mem _ hx))
    exact ⟨⟨k, h k (List.mem_cons_self ..)⟩ :: ds, by rw [List.map_cons, hds]⟩
set_option maxRecDepth 100000 in
theorem Sort_calls (T : Tms) (ok : Nat → Prop) (p c : Nat) (w : World) (h : IsT ok w p T) (hc : w.cell? ⟨c, 0, none⟩ = some (.pointer (some ⟨p, 0, none⟩))) (base : Nat) (okr : Nat → Prop) (A : Option Addr) (cap : Nat) (Ks : List ByteArray) (hR : Kd.R Kd.string 9 w base okr (.slice A Ks.length cap) Ks) (hK : ∀ k ∈ Ks, domS k) (hfar : ∀ k, Value.ownBlock (.slice A Ks.length cap) = some k → ¬ ok k ∧ c ≠ k) (hl : Ks.length ≤ 1000) :
    Calls Try.prog 19 #[.slice A Ks.length cap, .func (.func 20) #[] #[.pointer (some ⟨c, 0, none⟩)]] w fun e w' => e = .returned (.tuple #[]) ∧ ∃ Ks', Ks'.Perm Ks ∧ Ks'.length = Ks.length ∧ Ks'.Pairwise (fun a b => ¬ tlt (b, due T b) (a, due T a)) ∧ Kd.R Kd.string 9 w' base okr (.slice A Ks.length cap) Ks' ∧ w.grownBy w' (Value.ownBlock (.slice A Ks.length cap)) := by
  obtain ⟨hown1, hown2⟩ := Kd.own_of_R hR
  rcases hown2 with ⟨hv, h0⟩ | ⟨g, cap', cur, hv, hbase, hb, h1, h2, h3, h4⟩
  · injection hv with hA hn hcp
    have hKs : Ks = [] := List.eq_nil_of_length_eq_zero hn
    subst hKs hA hcp
    refine (sort_none none 0 _ w).mono ?_
    rintro e w' ⟨rfl, rfl⟩
    exact ⟨rfl, [], List.Perm.refl _, rfl, List.Pairwise.nil, hR, ⟨rfl, rfl, rfl, Nat.le_refl _, fun _ _ _ => rfl⟩⟩
  · injection hv with hA hn hcp
    subst hA hcp
    obtain ⟨ds, hds⟩ := lift_keys Ks hK
    have hdl : ds.length = Ks.length := by rw [← hds, List.length_map]
    have hfg := hfar g (by simp [Value.ownBlock])
    have henc : Ks.map Value.string = ds.map encK := by rw [← hds, List.map_map]; rfl
    have hH : Sort.Holds encK w g 0 ds.toArray := holds_row hb (by
      rw [hdl, ← henc]
      rw [Nat.mul_one] at h4
      exact h4)
    have hgl := blk_lt hb
    have hsz : ds.toArray.size = Ks.length := by simp [hdl]
    have hcl := World.block_lt_of_cell? w _ hc
    have hcmp : CmpLays1 Try.prog 20 #[.pointer (some ⟨c, 0, none⟩)] encK (cf T) g 0 ds.toArray.size w := fun m os dk hs x y => by
      have hg := grown_srt (enc := encK) (w := w) (g := g) (n := m) (os := os) dk
      have hW : IsT ok (sortWorld encK w g 0 m dk os) p T := h.move (fun k hk hl => hg.block k hl (fun e => hfg.1 (by cases e; exact hk)))
      have hcW : (sortWorld encK w g 0 m dk os).cell? ⟨c, 0, none⟩ = some (.pointer (some ⟨p, 0, none⟩)) := by
        have e1 := hg.block c hcl (fun e => hfg.2 (by cases e; rfl))
        simp only [World.cell?] at hc ⊢
        rw [e1]
        exact hc
      exact less_calls T ok p c _ hW hcW x.1 y.1 x.2 y.2
    have hS := Any.slices_SortFunc layF encK (fun _ => rfl) (cf T) (swo T) 20 #[.pointer (some ⟨c, 0, none⟩)] g 0 cap ds.toArray w (enters_of Try.func20 (by kernel_rfl) rfl) hcmp hH hgl (by rw [hsz]; omega)
    change Calls Try.prog 19 _ _ _ at hS
    rw [hsz] at hS
    refine hS.mono ?_
    rintro e w' ⟨rfl, d', n, os, ⟨hp1, _, hp2⟩, hs, rfl⟩
    have hd' : d'.size = Ks.length := hp1.trans hsz
    have hperm : d'.toList.Perm ds := by
      have e1 : (d'.extract 0 Ks.length).toList = d'.toList := by simp [← hd']
      have e2 : (ds.toArray.extract 0 Ks.length).toList = ds := by simp [← hdl]
      rw [e1, e2] at hp2
      exact hp2
    have hg := grown_srt (enc := encK) (w := w) (g := g) (n := n) (os := os) d'
    have hlen : (d'.toList.map (·.1)).length = Ks.length := by simp [hd']
    refine ⟨rfl, d'.toList.map (·.1), ?_, hlen, ?_, ?_, hg⟩
    · rw [← hds]; exact hperm.map _
    · rw [List.pairwise_map, List.pairwise_iff_getElem]
      intro i j hi hj hij
      have h5 := hs i j (Nat.zero_le _) hij (by simpa [hd'] using hj)
      rw [lt_iff'] at h5
      have hi' : i < d'.size := by simpa using hi
      have hj' : j < d'.size := by simpa using hj
      rw [getElem!_pos d' i hi', getElem!_pos d' j hj'] at h5
      simpa using h5
    · have ho : (sortWorld encK w g 0 n d' os).ownsRow base 9 1 (.slice (some ⟨g, 0, none⟩) Ks.length cap) (d'.toList.map (·.1)).length (encs Value.string (d'.toList.map (·.1))) := by
        refine ⟨by simp [encs], .inr ⟨g, cap, _, by rw [hlen], hbase, heap_srt d' hb, by rw [hlen]; exact h1, h2, by simp [Sort.putCells, h3], ?_⟩⟩
        have h6 := take_srt (enc := encK) (cur := cur) d'.toList (by have : d'.toList.length = Ks.length := by simp [hd']
                                                                     omega)
        rw [Nat.mul_one, hlen]
        have e3 : d'.toList.length = Ks.length := by simp [hd']
        rw [e3] at h6
        simpa [encs, encK, Function.comp_def] using h6
      exact Kd.R_of_own ho hR.1
end Go.Proofs.Ytdfghndcengkaaa.Tmr
