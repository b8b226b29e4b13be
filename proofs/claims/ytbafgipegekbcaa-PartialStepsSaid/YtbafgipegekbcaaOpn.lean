/- An argument that is a struct of integers, opened: a row of numbers, each fitting its kind. Nothing of the program. -/
import Derived.Deep.Fields
import Derived.WalkKit
import Derived.ChangeSame
import Derived.WideShapes
import Derived.Lib.SmallJoins
namespace Go.Proofs.Ytbafgipegekbcaa
open Go.ChangeShapes Go.WideShapes Go.RowKit Go.Deep

/-- The fields are integers of these kinds. -/
def fieldsAre (P : Program) (fs : Array Field) (ks : List IntKind) : Bool := fs.size == ks.length && (List.range fs.size).all fun i => match fs[i]?, ks[i]? with
  | some f, some k => (match P.underlying f.type with | some (.int k') => decide (k' = k) | _ => false)
  | _, _ => false

theorem fieldsAre_at {P : Program} {fs : Array Field} {ks : List IntKind} (h : fieldsAre P fs ks = true) (i : Nat) (f : Field) (k : IntKind) (hf : fs[i]? = some f) (hk : ks[i]? = some k) : P.underlying f.type = some (.int k) := by
  simp only [fieldsAre, Bool.and_eq_true, List.all_eq_true] at h
  have hi : i < fs.size := (Array.getElem?_eq_some_iff.1 hf).1
  have := h.2 i (List.mem_range.2 hi)
  rw [hf, hk] at this
  dsimp only at this
  split at this
  · rename_i k' hu
    rw [hu]
    simp only [decide_eq_true_eq] at this
    rw [this]
  · cases this

/-- The values of a struct of integers. -/
def vals (ks : List IntKind) (zs : List Int) : List Value := List.zipWith Value.int ks zs

/-- The number of a cell. -/
def intOf (o : Option Value) : Int := match o with | some (Value.int _ z) => z | _ => 0

theorem open_kinds {H : Type} {enc : TypeId × Value → H} {P : Program} {w : World} {base : Nat} {spare : Nat → Bool} {held : Bool} {r : Reach} {b0 : Nat} {t : TypeId} {fs : Array Field} {v : Value} {d : DataW H} {p : List MemPlace} (ks : List IntKind)
    (hs : P.underlying t = some (.struct fs)) (hone : oneCellFields P fs = true) (hC : P.cellsOf t = fs.size) (hk : fieldsAre P fs ks = true)
    (hv : Value.okWide P w r b0 t v) (h : DataW.Trod enc P w base spare held t v d p) :
    ∃ zs : List Int, zs.length = ks.length ∧ v = .agg (vals ks zs).toArray ∧ ∀ (i : Nat) (k : IntKind) (z : Int), ks[i]? = some k → zs[i]? = some z → (Lit.int k z).wf = true := by
  obtain ⟨cs, rfl, hsz⟩ := okWide_struct hs hv
  have hlk : fs.size = ks.length := by
    have := hk
    simp only [fieldsAre, Bool.and_eq_true, beq_iff_eq] at this
    exact this.1
  obtain ⟨fuel, hf⟩ := h
  obtain ⟨xs, n, _, hx, _, hlen, hg⟩ := DataW.trod_struct hs hf
  have hat : ∀ i (hi : i < ks.length), ∃ z, cs[i]? = some (.int (ks[i]) z) ∧ (Lit.int (ks[i]) z).wf = true := by
    intro i hi
    have hfi : fs[i]? = some (fs[i]'(by omega)) := Array.getElem?_eq_getElem (by omega)
    obtain ⟨ho, hk1⟩ := hone_of hone i _ hfi
    have h1 := hg i _ hfi
    rw [ho, hk1] at h1
    have hci : i < cs.toList.length := by simp; omega
    have hcl : ((Value.agg cs).cells.toList.drop i).take 1 = [cs.toList[i]] := by
      show (cs.toList.drop i).take 1 = _
      rw [List.drop_eq_getElem_cons hci]
      rfl
    rw [hcl] at h1
    have hxi : xs[i]? = some (xs[i]'(by omega)) := List.getElem?_eq_getElem (by omega)
    have h2 := h1.trans hxi
    obtain ⟨z, hz, _, hw⟩ := DataW.trod_int (fieldsAre_at hk i _ (ks[i]) hfi (List.getElem?_eq_getElem hi)) h2
    refine ⟨z, ?_, hw⟩
    simp only [List.cons.injEq, and_true] at hz
    rw [← hz, Array.getElem?_eq_getElem (by omega)]
    simp
  refine ⟨(List.range ks.length).map fun i => intOf cs[i]?, by simp, ?_, ?_⟩
  · congr 1
    refine Array.ext_getElem? fun i => ?_
    simp only [vals, List.getElem?_toArray, List.getElem?_zipWith, List.getElem?_map]
    by_cases hi : i < ks.length
    · obtain ⟨z, hz, -⟩ := hat i hi
      rw [List.getElem?_range hi, hz, List.getElem?_eq_getElem hi]
      simp [intOf, hz]
    · rw [Array.getElem?_eq_none (by omega), List.getElem?_eq_none (by omega : ks.length ≤ i)]
  · intro i k z hki hzi
    have hi : i < ks.length := (List.getElem?_eq_some_iff.1 hki).1
    obtain ⟨z', hz, hw⟩ := hat i hi
    simp only [List.getElem?_map, List.getElem?_range hi, Option.map_some, hz, intOf, Option.some.injEq] at hzi
    rw [List.getElem?_eq_getElem hi] at hki
    simp only [Option.some.injEq] at hki
    rw [← hki, ← hzi]
    exact hw

end Go.Proofs.Ytbafgipegekbcaa
