/- Plain arithmetic of chapter 10: how many weights fit into a limit. No program in sight. -/
namespace Go.Proofs.Ytddplidjmaflkaa.Pl

/-- The rest and how many elements fit. -/
def fold : List Int → Int → Int × Nat
  | [], s => (s, 0)
  | x :: t, s => if s < x then (s, 0) else ((fold t (s - x)).1, (fold t (s - x)).2 + 1)

theorem fold_stop (zs : List Int) (k : Nat) (s : Int) (h : k < zs.length) (hx : s < zs[k]) : fold (zs.drop k) s = (s, 0) := by
  rw [List.drop_eq_getElem_cons h, fold, if_pos hx]

theorem fold_step (zs : List Int) (k : Nat) (s : Int) (h : k < zs.length) (hx : ¬ s < zs[k]) :
    fold (zs.drop k) s = ((fold (zs.drop (k + 1)) (s - zs[k])).1, (fold (zs.drop (k + 1)) (s - zs[k])).2 + 1) := by
  rw [List.drop_eq_getElem_cons h, fold, if_neg hx]

theorem fold_end (zs : List Int) (s : Int) : fold (zs.drop zs.length) s = (s, 0) := by simp [fold]

end Go.Proofs.Ytddplidjmaflkaa.Pl
