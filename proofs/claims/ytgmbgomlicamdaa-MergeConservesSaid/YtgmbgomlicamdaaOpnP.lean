/- An argument that is a slice of pairs, opened. -/
import Derived.Test.YtgmbgomlicamdaaOpnS
import Derived.Test.YtgmbgomlicamdaaMgM
namespace Go.Proofs.Ytgmbgomlicamdaa
open Go.ChangeShapes Go.WideShapes Go.RowKit Go.Deep
set_option linter.unusedVariables false

theorem open_pairs {H : Type} {enc : TypeId × Value → H} {w : World} {base : Nat} {spare : Nat → Bool} {held : Bool} {v : Value} {d : DataW H} {p : List MemPlace} (hcl : v.cells.toList = [v]) (h : DataW.Trod enc Try.prog w base spare held 42 v d p) :
    ∃ (ps : List (Int × Int)) (A : Option Addr) (n cap : Nat), v = .slice A n cap ∧ Row pairL w A n ps ∧ n ≤ 9223372036854775807 ∧ n ≤ cap := by
  obtain ⟨fuel, hf⟩ := h
  rw [hcl] at hf
  rcases open_slice Try.underlying42 hf with h0 | ⟨a, len, cap, m, n, D, Pl, hcs, hb, hl, hm, hmm, hx, hi⟩
  · have h1 := h0.1
    simp only [List.cons.injEq, and_true] at h1
    exact ⟨[], none, 0, 0, h1, ⟨rfl, .inl rfl⟩, by omega, by omega⟩
  · simp only [List.cons.injEq, and_true] at hcs
    have hC : Try.prog.cellsOf 37 = 2 := by kernel_rfl
    obtain ⟨xs, hx, -⟩ := row_mk (f := pairL) (k := 2) (Ok := fun _ => True) (w := w) (by decide) pair_len a len (fun i hil => by
      have him' : i < m := by rw [hmm]; split <;> omega
      obtain ⟨cs', hc, ht'⟩ := hi i him'
      rw [hC] at hc
      obtain ⟨_, hcl', hat⟩ := World.cells?_some hc
      match cs', hcl' with
      | [c0, c1], _ =>
        obtain ⟨z0, z1, rfl, rfl, _, _⟩ := pair_cells ht'
        refine ⟨(z0, z1), trivial, fun j u hu => ?_⟩
        have hj : j < 2 := (List.getElem?_eq_some_iff.1 hu).1
        have := hat j (by simpa using hj)
        rw [← Go.Deep.add_add, this]
        match j, hj with
        | 0, _ => exact hu
        | 1, _ => exact hu)
    exact ⟨xs, some a, len, cap, hcs, hx, by unfold maxLen at hm; omega, hl⟩

end Go.Proofs.Ytgmbgomlicamdaa
