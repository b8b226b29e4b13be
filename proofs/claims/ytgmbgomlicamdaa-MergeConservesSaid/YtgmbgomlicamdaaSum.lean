/- Plain: sums of lists of integers. No program in sight. -/
namespace Go.Proofs.Ytgmbgomlicamdaa.Pl

theorem take_succ' (xs : List Int) (k : Nat) (h : k < xs.length) : (xs.take (k + 1)).sum = (xs.take k).sum + xs[k] := by
  rw [List.take_succ_eq_append_getElem h, List.sum_append, List.sum_cons, List.sum_nil]
  omega

theorem sum_nonneg (xs : List Int) (h : ∀ x ∈ xs, 0 ≤ x) : 0 ≤ xs.sum := by
  induction xs with
  | nil => simp
  | cons x t ih =>
    have h1 := h x (by simp)
    have h2 := ih (fun y hy => h y (by simp [hy]))
    simp; omega

theorem sum_take_le (xs : List Int) (k : Nat) (h : ∀ x ∈ xs, 0 ≤ x) : (xs.take k).sum ≤ xs.sum := by
  have h1 : xs.sum = (xs.take k).sum + (xs.drop k).sum := by rw [← List.sum_append, List.take_append_drop]
  have h2 := sum_nonneg (xs.drop k) (fun x hx => h x (List.mem_of_mem_drop hx))
  omega

end Go.Proofs.Ytgmbgomlicamdaa.Pl
