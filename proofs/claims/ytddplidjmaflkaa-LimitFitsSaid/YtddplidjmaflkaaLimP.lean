/- Plain arithmetic of chapter 10: how many weights fit into a limit. No program in sight. -/
namespace Go.Proofs.Ytddplidjmaflkaa.Pl

/-- The rest and how many elements fit. -/
def fold : List Int → Int → Int × Nat
  | [], s => (s, 0)
  | x :: t, s => if s < x then (s, 0) else ((fold t (s - x)).1, (fold t (s - x)).2 + 1)

theorem fold_stop (zs : List Int) (k : Nat) (s : Int) (h : k < zs.length) (hx : s < zs[k]) : fold (zs.drop k) s = (s, 0) := by
  rw [List.drop_eq_getElem_cons h, fold, if_pos hx]

theorem fold_step (zs : List Int) (k : Nat) (s : Int) (h : k < zs.length) (hx : ¬ s < zs[k]) :
    fold (zs.drop k) s = ((fold (zs.drop (k + 1)) (s - zs[k])).1, (fold (zs.drop (k + 1)) (s - zs[k])).2 + 1) := by
  rw [List.drop_eq_getElem_cons h, fold, if_neg hx]

theorem fold_end (zs : List Int) (s : Int) : fold (zs.drop zs.length) s = (s, 0) := by simp [fold]

theorem fold_le (zs : List Int) (s : Int) : (fold zs s).2 ≤ zs.length := by
  induction zs generalizing s with
  | nil => simp [fold]
  | cons x t ih =>
    unfold fold
    have := ih (s - x)
    by_cases h : s < x
    · simp [h]
    · simp [h]; omega

theorem fold_sum (zs : List Int) (s : Int) : (zs.take (fold zs s).2).sum + (fold zs s).1 = s := by
  induction zs generalizing s with
  | nil => simp [fold]
  | cons x t ih =>
    unfold fold
    have := ih (s - x)
    by_cases h : s < x
    · simp [h]
    · simp [h]; omega

theorem fold_nonneg (zs : List Int) (s : Int) (h : 0 ≤ s) : 0 ≤ (fold zs s).1 := by
  induction zs generalizing s with
  | nil => simpa [fold] using h
  | cons x t ih =>
    unfold fold
    by_cases hx : s < x
    · simpa [hx] using h
    · simp [hx]; exact ih (s - x) (by omega)

theorem fold_max (zs : List Int) (s : Int) (h : (fold zs s).2 < zs.length) : (fold zs s).1 < zs[(fold zs s).2] := by
  induction zs generalizing s with
  | nil => simp at h
  | cons x t ih =>
    by_cases hx : s < x
    · have e : fold (x :: t) s = (s, 0) := by simp [fold, hx]
      simpa [e] using hx
    · have e : fold (x :: t) s = ((fold t (s - x)).1, (fold t (s - x)).2 + 1) := by simp [fold, hx]
      simp only [e] at h ⊢
      simp at h
      exact ih (s - x) h

end Go.Proofs.Ytddplidjmaflkaa.Pl
