/- An argument that is a slice of structs, opened. -/
import Derived.Test.YtbafgipegekbcaaOpnV
import Derived.Test.YtbafgipegekbcaaRow
import Derived.Deep.Slices
import Derived.Deep.Fields
import Derived.ChangeSame
import Derived.Laws.IdiomArrays
namespace Go.Proofs.Ytbafgipegekbcaa
open Go.ChangeShapes Go.WideShapes Go.RowKit Go.Deep
set_option linter.unusedVariables false

theorem list_choose {α : Type} {R : Nat → α → Prop} : ∀ (n : Nat), (∀ i, i < n → ∃ x, R i x) → ∃ l : List α, l.length = n ∧ ∀ i (h : i < l.length), R i l[i]
  | 0, _ => ⟨[], rfl, fun i h => by simp at h⟩
  | n + 1, h => by
    obtain ⟨l, hl, hr⟩ := list_choose n (fun i hi => h i (by omega))
    obtain ⟨x, hx⟩ := h n (by omega)
    refine ⟨l ++ [x], by simp [hl], fun i hi => ?_⟩
    by_cases hi' : i < l.length
    · rw [List.getElem_append_left hi']; exact hr i hi'
    · have : i = n := by simp at hi; omega
      subst this
      rw [List.getElem_append_right (by omega)]
      simpa [hl] using hx

/-- Elements that lie one behind the other are a row. -/
theorem row_mk {α : Type} {f : α → List Value} {k : Nat} {Ok : α → Prop} {w : World} (hk0 : 0 < k) (hkf : ∀ x, (f x).length = k) (a : Addr) (len : Nat) (hel : ∀ i, i < len → ∃ x, Ok x ∧ ∀ j u, (f x)[j]? = some u → w.cell? (a.add (i * k + j)) = some u) :
    ∃ xs : List α, Row f w (some a) len xs ∧ ∀ x ∈ xs, Ok x := by
  obtain ⟨xs, hxl, hxs⟩ := list_choose len hel
  refine ⟨xs, ⟨hxl.symm, ?_⟩, fun x hx => ?_⟩
  · by_cases h0 : xs = []
    · exact .inl h0
    · right
      have hpos : 0 < xs.length := List.length_pos_iff.2 h0
      have hlt0 : 0 < (f xs[0]).length := by rw [hkf]; omega
      have hc0 := (hxs 0 hpos).2 0 _ (List.getElem?_eq_getElem hlt0)
      obtain ⟨b, off, spot⟩ := a
      have hspot : spot = none := by simpa [Addr.add] using World.cell?_spot hc0
      subst hspot
      have hbl := World.block_lt_of_cell? w _ hc0
      rw [add_off] at hbl
      refine ⟨b, off, rfl, hbl, fun j u hu => ?_⟩
      have hjl : j < (flat f xs).length := (List.getElem?_eq_some_iff.1 hu).1
      rw [flat_len hkf] at hjl
      have hq : j / k < xs.length := (Nat.div_lt_iff_lt_mul (by omega)).2 hjl
      have hr : j % k < k := Nat.mod_lt _ (by omega)
      have e : j = j / k * k + j % k := by rw [Nat.mul_comm, Nat.div_add_mod]
      rw [e, flat_at hkf xs _ _ hq hr] at hu
      have := (hxs (j / k) hq).2 _ _ hu
      rw [← e, add_off] at this
      exact this
  · obtain ⟨i, hi, rfl⟩ := List.getElem_of_mem hx
    exact (hxs i hi).1

section
variable {H : Type} {enc : TypeId × Value → H} {P : Program} {w : World} {base : Nat} {spare : Nat → Bool} {held : Bool}
theorem open_slice_fields {t e : TypeId} {fs : Array Field} {fuel : Nat} {cs : List Value} {x : DataW H × List MemPlace} (ht : P.underlying t = some (.slice e)) (he : P.underlying e = some (.struct fs))
    (hone : oneCellFields P fs = true) (hC : P.cellsOf e = fs.size) (h : DataW.trod enc P w base spare held fuel t cs = some x) :
    (cs = [.slice none 0 0]) ∨
    ∃ (a : Addr) (len cap : Nat), cs = [.slice (some a) len cap] ∧ len ≤ cap ∧ cap ≤ maxLen ∧
      ∀ i, i < len → ∀ (j : Nat) (f : Field), fs[j]? = some f → ∃ (v : Value) (y : DataW H × List MemPlace) (n : Nat), w.cell? (a.add (i * fs.size + j)) = some v ∧ DataW.trod enc P w base spare held n f.type [v] = some y := by
  rcases open_slice ht h with h0 | ⟨a, len, cap, m, n, D, Pl, hcs, hb, hl, hm, hmm, hx, hi⟩
  · exact .inl h0.1
  · refine .inr ⟨a, len, cap, hcs, hl, hm, fun i him => ?_⟩
    have him' : i < m := by rw [hmm]; split <;> omega
    obtain ⟨cs', hc, ht'⟩ := hi i him'
    rw [hC] at hc
    obtain ⟨ys, n', hn', hy, hlen, hyl, hf⟩ := DataW.trod_struct he ht'
    obtain ⟨_, hcl, hat⟩ := World.cells?_some hc
    intro j f hj
    obtain ⟨ho, hk⟩ := hone_of hone j f hj
    have hjl : j < fs.size := (Array.getElem?_eq_some_iff.1 hj).1
    have hcell := hat j hjl
    have hv : cs'[j]? = some (cs'[j]'(by omega)) := List.getElem?_eq_getElem (by omega)
    have h1 := hf j f hj
    rw [ho, hk] at h1
    have hone' : (cs'.drop j).take 1 = [cs'[j]'(by omega)] := by
      rw [List.drop_eq_getElem_cons (by omega)]
      rfl
    rw [hone'] at h1
    have hys : ys[j]? = some (ys[j]'(by omega)) := List.getElem?_eq_getElem (by omega)
    refine ⟨_, _, n', ?_, h1.trans hys⟩
    rw [← Go.Deep.add_add, hcell, hv]

/-- A slice of structs of k cells, each of which reads as f x for an x that is fit. -/
theorem open_row {α : Type} {f : α → List Value} {k : Nat} {Ok : α → Prop} {t e : TypeId} {fs : Array Field} {v : Value} {d : DataW H} {p : List MemPlace} (ks : List (Option IntKind)) (hk0 : 0 < k) (hkf : ∀ x, (f x).length = k)
    (hget : ∀ cs : List Value, cs.length = k → (∀ (i : Nat) (q : Option IntKind) (c : Value), ks[i]? = some q → cs[i]? = some c → isKind q c) → ∃ x, cs = f x ∧ Ok x)
    (ht : P.underlying t = some (.slice e)) (he : P.underlying e = some (.struct fs)) (hone : oneCellFields P fs = true) (hC : P.cellsOf e = fs.size) (hk : fieldsB P fs ks = true) (hsz : fs.size = k)
    (hcl : v.cells.toList = [v]) (h : DataW.Trod enc P w base spare held t v d p) :
    ∃ (xs : List α) (A : Option Addr) (n cap : Nat), v = .slice A n cap ∧ Row f w A n xs ∧ n ≤ 9223372036854775807 ∧ ∀ x ∈ xs, Ok x := by
  obtain ⟨fuel, hf⟩ := h
  rw [hcl] at hf
  rcases open_slice_fields ht he hone hC hf with h0 | ⟨a, len, cap, hcs, hl, hm, hi⟩
  · simp only [List.cons.injEq, and_true] at h0
    exact ⟨[], none, 0, 0, h0, ⟨rfl, .inl rfl⟩, by omega, by simp⟩
  · simp only [List.cons.injEq, and_true] at hcs
    have hlk : ks.length = k := by
      have := hk
      simp only [fieldsB, Bool.and_eq_true, beq_iff_eq] at this
      omega
    have hel : ∀ i, i < len → ∃ x, Ok x ∧ ∀ j u, (f x)[j]? = some u → w.cell? (a.add (i * k + j)) = some u := by
      intro i hil
      have hj : ∀ j, j < k → ∃ c, w.cell? (a.add (i * k + j)) = some c ∧ ∀ q, ks[j]? = some q → isKind q c := by
        intro j hjk
        have hfj : fs[j]? = some (fs[j]'(by omega)) := Array.getElem?_eq_getElem (by omega)
        obtain ⟨c, y, n, hc, hy⟩ := hi i hil j _ hfj
        rw [hsz] at hc
        exact ⟨c, hc, fun q hq => isKind_of (fieldsB_at hk j _ q hfj hq) hy⟩
      obtain ⟨cs, hcl, hcs⟩ := list_choose k hj
      obtain ⟨x, hx, hok⟩ := hget cs hcl (fun j q c hq hc => by
        have hlt : j < cs.length := (List.getElem?_eq_some_iff.1 hc).1
        rw [List.getElem?_eq_getElem hlt] at hc
        rw [← Option.some.inj hc]
        exact (hcs j hlt).2 q hq)
      refine ⟨x, hok, fun j u hu => ?_⟩
      rw [← hx] at hu
      have hlt : j < cs.length := (List.getElem?_eq_some_iff.1 hu).1
      rw [List.getElem?_eq_getElem hlt] at hu
      rw [← Option.some.inj hu]
      exact (hcs j hlt).1
    obtain ⟨xs, hx, hok⟩ := row_mk hk0 hkf a len hel
    exact ⟨xs, some a, len, cap, hcs, hx, by unfold maxLen at hm; omega, hok⟩
end

section
variable {H : Type} {enc : TypeId × Value → H} {w : World} {base : Nat} {spare : Nat → Bool} {held : Bool}
theorem open_vals {v : Value} {d : DataW H} {p : List MemPlace} (hcl : v.cells.toList = [v]) (h : DataW.Trod enc Try.prog w base spare held 22 v d p) :
    ∃ (vs : List Val) (A : Option Addr) (n cap : Nat), v = .slice A n cap ∧ Row Val.list w A n vs ∧ n ≤ 9223372036854775807 ∧ ∀ x ∈ vs, x.Ok :=
  open_row [some .u64, some .i64, none, some .i64, some .i64, some .i64, some .i64] (by decide) Val.len (fun cs hl hw => val_of_cells hl hw) Try.underlying22 Try.underlying35 (by kernel_rfl) (by kernel_rfl) (by kernel_rfl) rfl hcl h
end

theorem cells_slice {P : Program} {w : World} {r : Reach} {b0 : Nat} {t e : TypeId} {v : Value} (ht : P.underlying t = some (.slice e)) (hv : Value.okWide P w r b0 t v) : v.cells.toList = [v] := by
  simp only [Value.okWide, ht] at hv
  cases v <;> simp_all [Value.cells, Cell.okWide, Cell.ok]

end Go.Proofs.Ytbafgipegekbcaa
