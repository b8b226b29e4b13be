/- An argument that is a struct of integers and bools, opened. Nothing of the program. -/
import Derived.Deep.Fields
import Derived.WalkKit
import Derived.ChangeSame
import Derived.WideShapes
import Derived.Lib.SmallJoins
namespace Go.Proofs.Ytbafgipegekbcaa
open Go.ChangeShapes Go.WideShapes Go.RowKit Go.Deep

/-- What a field is: an integer of a kind, or a bool. -/
def fieldB (d : Option TypeDesc) (k : Option IntKind) : Bool := match k, d with
  | some k, some (.int k') => decide (k' = k)
  | none, some .bool => true
  | _, _ => false
def fieldsB (P : Program) (fs : Array Field) (ks : List (Option IntKind)) : Bool := fs.size == ks.length && (List.range fs.size).all fun i => match fs[i]?, ks[i]? with
  | some f, some k => fieldB (P.underlying f.type) k
  | _, _ => false
def isKind (k : Option IntKind) (c : Value) : Prop := match k with
  | some k => ∃ z, c = .int k z ∧ (Lit.int k z).wf = true
  | none => ∃ b, c = .bool b

theorem fieldsB_at {P : Program} {fs : Array Field} {ks : List (Option IntKind)} (h : fieldsB P fs ks = true) (i : Nat) (f : Field) (k : Option IntKind) (hf : fs[i]? = some f) (hk : ks[i]? = some k) : fieldB (P.underlying f.type) k = true := by
  simp only [fieldsB, Bool.and_eq_true, List.all_eq_true] at h
  have hi : i < fs.size := (Array.getElem?_eq_some_iff.1 hf).1
  have := h.2 i (List.mem_range.2 hi)
  rw [hf, hk] at this
  exact this

theorem isKind_of {H : Type} {enc : TypeId × Value → H} {P : Program} {w : World} {base : Nat} {spare : Nat → Bool} {held : Bool} {n : Nat} {t : TypeId} {k : Option IntKind} {c : Value} {y : DataW H × List MemPlace}
    (hk : fieldB (P.underlying t) k = true) (h : DataW.trod enc P w base spare held n t [c] = some y) : isKind k c := by
  cases hu : P.underlying t with
  | none => rw [hu] at hk; cases k <;> cases hk
  | some u =>
    rw [hu] at hk
    cases k with
    | none =>
      cases u with
      | bool =>
        obtain ⟨z, hz, _⟩ := DataW.trod_bool hu h
        simp only [List.cons.injEq, and_true] at hz
        exact ⟨z, hz⟩
      | _ => cases hk
    | some k =>
      cases u with
      | int k' =>
        simp only [fieldB, decide_eq_true_eq] at hk
        subst hk
        obtain ⟨z, hz, _, hw⟩ := DataW.trod_int hu h
        simp only [List.cons.injEq, and_true] at hz
        exact ⟨z, hz, hw⟩
      | _ => cases hk

theorem open_fields {H : Type} {enc : TypeId × Value → H} {P : Program} {w : World} {base : Nat} {spare : Nat → Bool} {held : Bool} {r : Reach} {b0 : Nat} {t : TypeId} {fs : Array Field} {v : Value} {d : DataW H} {p : List MemPlace} (ks : List (Option IntKind))
    (hs : P.underlying t = some (.struct fs)) (hone : oneCellFields P fs = true) (hC : P.cellsOf t = fs.size) (hk : fieldsB P fs ks = true)
    (hv : Value.okWide P w r b0 t v) (h : DataW.Trod enc P w base spare held t v d p) :
    ∃ cs : List Value, cs.length = ks.length ∧ v = .agg cs.toArray ∧ ∀ (i : Nat) (k : Option IntKind) (c : Value), ks[i]? = some k → cs[i]? = some c → isKind k c := by
  obtain ⟨cs, rfl, hsz⟩ := okWide_struct hs hv
  have hlk : fs.size = ks.length := by
    have := hk
    simp only [fieldsB, Bool.and_eq_true, beq_iff_eq] at this
    exact this.1
  obtain ⟨fuel, hf⟩ := h
  obtain ⟨xs, n, _, hx, _, hlen, hg⟩ := DataW.trod_struct hs hf
  refine ⟨cs.toList, by simp; omega, by simp, ?_⟩
  intro i k c hki hci
  have hi : i < ks.length := (List.getElem?_eq_some_iff.1 hki).1
  have hfi : fs[i]? = some (fs[i]'(by omega)) := Array.getElem?_eq_getElem (by omega)
  obtain ⟨ho, hk1⟩ := hone_of hone i _ hfi
  have h1 := hg i _ hfi
  rw [ho, hk1] at h1
  have hcl : i < cs.toList.length := (List.getElem?_eq_some_iff.1 hci).1
  have e : ((Value.agg cs).cells.toList.drop i).take 1 = [c] := by
    show (cs.toList.drop i).take 1 = _
    rw [List.drop_eq_getElem_cons hcl]
    rw [List.getElem?_eq_getElem hcl] at hci
    rw [Option.some.inj hci]
    rfl
  rw [e] at h1
  have hxi : xs[i]? = some (xs[i]'(by omega)) := List.getElem?_eq_getElem (by omega)
  exact isKind_of (fieldsB_at hk i _ k hfi hki) (h1.trans hxi)

end Go.Proofs.Ytbafgipegekbcaa
