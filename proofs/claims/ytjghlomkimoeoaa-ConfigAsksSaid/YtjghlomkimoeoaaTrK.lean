/- ConfigAsks: what its function answers. -/
import Derived.Test.YtjghlomkimoeoaaTrH
import Derived.Test.YtjghlomkimoeoaaTrS
namespace Go.Proofs.Ytjghlomkimoeoaa.Tr
open Go.RowKit Go.Proofs.YtjghlomkimoeoaaW.PrintWords Go.Proofs.YtjghlomkimoeoaaW.PrintLast Go.Proofs.YtjghlomkimoeoaaW.PrintMore Go.Proofs.Ytjghlomkimoeoaa.PConfigAsks
set_option linter.unusedVariables false
set_option linter.unusedSimpArgs false
variable {s : Sh}
theorem rd_cv (l : List S140) (i : Int) : rd_T86 (l.map cv) i = cv (rd_T140 l i) := by
  unfold rd_T86 rd_T140
  rw [List.getD_eq_getElem?_getD, List.getD_eq_getElem?_getD, List.getElem?_map]
  cases l[i.toNat]? <;> rfl
theorem asks (l : List S140) (av : List Int) (sc i : Int) : Ev (fun k => tumbrellaw10_ConfigAsks.f k l av sc i) true := by
  obtain ⟨K, hA⟩ := awake_ev
  dsimp only at hA
  obtain ⟨b, ⟨K1, hF⟩, hb⟩ := few_ev l av
  dsimp only at hF
  cases b with
  | false =>
    refine ⟨K + K1 + 1, fun k hk => ?_⟩
    obtain ⟨k, rfl⟩ : ∃ m, k = m + 1 := ⟨k - 1, by omega⟩
    dsimp only
    rw [tumbrellaw10_ConfigAsks.f, hA (k + 1) (by omega), Option.bind_some, if_pos rfl, hF (k + 1) (by omega), Option.bind_some, show (!false) = true from rfl, tumbrellaw10_ConfigAsks.j0, if_pos rfl, hA k (by omega), Option.bind_some]
  | true =>
    obtain ⟨hl, hav⟩ := hb rfl
    obtain ⟨K2, hT⟩ := Theirs_ev l hl
    have hll : (l.map cv).length ≤ 1000 := by rw [List.length_map]; exact hl
    obtain ⟨r1, ⟨K3, hL⟩, hr1⟩ := Legal_ev (l.map cv) av hav
    obtain ⟨r2, ⟨K4, hR⟩, hr2⟩ := rLegal_ev l av hav
    rw [sh_cv] at hr1
    have hrr : r1 = r2 := by
      have h1 : r1 = true ↔ r2 = true := hr1.trans hr2.symm
      cases r1 <;> cases r2 <;> simp_all
    subst hrr
    obtain ⟨K5, hO⟩ := Over_ev (l.map cv) hll av hav
    obtain ⟨K6, hQ⟩ := rOver_ev l av hav
    rw [sh_cv, show (fun x => (rd_T86 (l.map cv) x).f5) = (fun x => (rd_T140 l x).f5) from funext fun x => by rw [rd_cv]; rfl] at hO
    obtain ⟨K7, hS⟩ := Start_ev (l.map cv)
    obtain ⟨K8, hSr⟩ := rStart_ev l
    obtain ⟨K9, hE⟩ := Enter_ev (l.map cv) sc i
    obtain ⟨K10, hEr⟩ := rEnter_ev l sc i
    obtain ⟨K11, hV⟩ := Leave_ev (l.map cv) av hav sc
    obtain ⟨K12, hVr⟩ := rLeave_ev l av hav sc
    obtain ⟨K13, hW⟩ := Leaves_ev (l.map cv) hll av hav
    obtain ⟨K14, hWr⟩ := rLeaves_ev l av hav
    rw [sh_cv] at hS hE hV hW
    obtain ⟨K15, i1⟩ := Ints_ev (stI (shr l)) (by have := stI_len (s := shr l); omega)
    obtain ⟨K16, i2⟩ := Ints_ev (eI (shr l) sc i) (by have := eI_len (s := shr l) sc i; omega)
    obtain ⟨K17, i3⟩ := Ints_ev (lI (shr l) av sc) (by have := lI_len (s := shr l) av sc; omega)
    obtain ⟨K18, i4⟩ := Ints_ev (lvI (shr l) av) (by have := lvI_len (s := shr l) av; omega)
    dsimp only at hT hL hR hO hQ hS hSr hE hEr hV hVr hW hWr i1 i2 i3 i4
    generalize ovI (shr l) av (fun x => (rd_T140 l x).f5) = o at hO hQ
    refine ⟨K + K1 + K2 + K3 + K4 + K5 + K6 + K7 + K8 + K9 + K10 + K11 + K12 + K13 + K14 + K15 + K16 + K17 + K18 + 2, fun k hk => ?_⟩
    obtain ⟨k, rfl⟩ : ∃ m, k = m + 2 := ⟨k - 2, by omega⟩
    dsimp only
    rw [tumbrellaw10_ConfigAsks.f, hA (k + 2) (by omega), Option.bind_some, if_pos rfl, hF (k + 2) (by omega), Option.bind_some, show (!true) = false from rfl, tumbrellaw10_ConfigAsks.j0, if_neg (by decide), hT (k + 1) (by omega), Option.bind_some, hL (k + 1) (by omega), Option.bind_some, hR (k + 1) (by omega), Option.bind_some,
      if_neg (by simp), hO (k + 1) (by omega), Option.bind_some, hQ (k + 1) (by omega), Option.bind_some, show (o != o) = false by simp, tumbrellaw10_ConfigAsks.j1, if_neg (by decide), hS k (by omega), Option.bind_some, hSr k (by omega), Option.bind_some, i1 k (by omega), Option.bind_some, if_pos rfl,
      hE k (by omega), Option.bind_some, hEr k (by omega), Option.bind_some, i2 k (by omega), Option.bind_some, if_pos rfl, hV k (by omega), Option.bind_some, hVr k (by omega), Option.bind_some, i3 k (by omega), Option.bind_some, if_pos rfl, hW k (by omega), Option.bind_some, hWr k (by omega), Option.bind_some, i4 k (by omega), Option.bind_some]
end Go.Proofs.Ytjghlomkimoeoaa.Tr
