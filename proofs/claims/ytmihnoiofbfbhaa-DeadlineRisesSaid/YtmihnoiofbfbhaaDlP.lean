/- Plain arithmetic of chapter 18 (deadlines). No program in sight. -/
namespace Go.Proofs.Ytmihnoiofbfbhaa.Pl

/-- a/d, rounded up. -/
def cd (a d : Int) : Int := (a + d - 1) / d

theorem cd_succ (a d : Int) (hd : 1 ≤ d) : (a - 1) / d + 1 = cd a d := by
  unfold cd
  rw [show a + d - 1 = (a - 1) + 1 * d from by omega, Int.add_mul_ediv_right _ _ (by omega)]

theorem cd_zero (d : Int) (hd : 1 ≤ d) : cd 0 d = 0 := by
  unfold cd
  exact Int.ediv_eq_zero_of_lt (by omega) (by omega)

theorem cd_more (a d : Int) (hd : 1 ≤ d) (h : 0 < a % d) : a / d + 1 = cd a d := by
  have h1 := Int.emod_lt_of_pos a (show 0 < d by omega)
  have h2 := Int.mul_ediv_add_emod a d
  unfold cd
  rw [show a + d - 1 = (a % d - 1) + (a / d + 1) * d from by
    have : (a / d + 1) * d = d * (a / d) + d := by rw [Int.add_mul, Int.mul_comm, Int.one_mul]
    rw [this]; omega]
  have e1 : (a % d - 1) / d = 0 := Int.ediv_eq_zero_of_lt (by omega) (by omega)
  rw [Int.add_mul_ediv_right _ _ (by omega), e1]; omega

theorem cd_even (a d : Int) (hd : 1 ≤ d) (h : a % d = 0) : a / d = cd a d := by
  have h2 := Int.mul_ediv_add_emod a d
  unfold cd
  rw [show a + d - 1 = (d - 1) + (a / d) * d from by
    have : (a / d) * d = d * (a / d) := Int.mul_comm _ _
    rw [this]; omega]
  have e1 : (d - 1) / d = 0 := Int.ediv_eq_zero_of_lt (by omega) (by omega)
  rw [Int.add_mul_ediv_right _ _ (by omega), e1]; omega

theorem cd_nonneg (a d : Int) (hd : 1 ≤ d) (ha : 0 ≤ a) : 0 ≤ cd a d := Int.ediv_nonneg (by omega) (by omega)

theorem cd_le (a d : Int) (hd : 1 ≤ d) (ha : 0 ≤ a) : cd a d ≤ a := by
  rcases Int.lt_or_le 0 a with h | h
  · rw [← cd_succ a d hd]
    have := Int.ediv_le_self (b := d) (a := a - 1) (by omega)
    omega
  · obtain rfl : a = 0 := by omega
    rw [cd_zero d hd]; omega

/-- The answer's two parts. -/
def oV (o : Option Int) : Int := o.getD 0
def oB (o : Option Int) : Bool := o.isSome

/-- The greatest epoch. -/
def ME : Int := 1099511627776

/-- The number of epochs for a weight. -/
def epo (s d : Int) : Option Int := if cd s d ≤ 1099511627776 then some (cd s d) else none

/-- The boundaries until an exit is assigned. -/
def bnd (a w fc mc : Int) : Option Int :=
  if 18446744073709551615 < a + w + fc then none else (epo (a + w + fc) mc).map fun n => max n 1

/-- A sum of epochs. -/
def lat : List Int → Int → Option Int
  | [], s => some s
  | n :: t, s => if n < 0 ∨ 1099511627776 - s < n then none else lat t (s + n)

theorem lat_stop (l : List Int) (k : Nat) (s : Int) (h : k < l.length) (hx : l[k] < 0 ∨ 1099511627776 - s < l[k]) : lat (l.drop k) s = none := by
  rw [List.drop_eq_getElem_cons h, lat, if_pos hx]
theorem lat_step (l : List Int) (k : Nat) (s : Int) (h : k < l.length) (h1 : 0 ≤ l[k]) (h2 : l[k] ≤ 1099511627776 - s) : lat (l.drop k) s = lat (l.drop (k + 1)) (s + l[k]) := by
  rw [List.drop_eq_getElem_cons h, lat, if_neg (by omega)]
theorem lat_end (l : List Int) (s : Int) : lat (l.drop l.length) s = some s := by simp [lat]

theorem lat_bound (l : List Int) (s v : Int) (hs : 0 ≤ s) (hm : s ≤ 1099511627776) (h : lat l s = some v) : 0 ≤ v ∧ v ≤ 1099511627776 := by
  induction l generalizing s with
  | nil => simp [lat] at h; omega
  | cons n t ih =>
    unfold lat at h
    split at h
    · cases h
    · exact ih (s + n) (by omega) (by omega) h

/-- A bound: the epoch, the boundaries, one epoch, and what comes behind. -/
def bound (e : Int) (o : Option Int) (more : List Int) : Option Int := o.bind fun k => lat ([e, k, 1] ++ more) 0

/-- How many blocks, how many epochs a sweep takes. -/
def blocks (cap visits pays parts : Int) : Int := (cap - 1) / (min visits pays - parts) + 1
def swp (cap visits pays parts epl : Int) : Int := (blocks cap visits pays parts - 1) / epl

theorem blocks_cd (cap visits pays parts : Int) (h : 1 ≤ min visits pays - parts) : (cap + (min visits pays - parts) - 1) / (min visits pays - parts) = blocks cap visits pays parts := by
  unfold blocks
  rw [cd_succ _ _ h]; rfl

theorem blocks_pos (cap visits pays parts : Int) (h1 : 1 ≤ cap) (h : 1 ≤ min visits pays - parts) : 1 ≤ blocks cap visits pays parts := by
  unfold blocks
  have := Int.ediv_nonneg (a := cap - 1) (b := min visits pays - parts) (by omega) (by omega)
  omega
theorem blocks_le (cap visits pays parts : Int) (h1 : 1 ≤ cap) : blocks cap visits pays parts ≤ cap := by
  unfold blocks
  have := Int.ediv_le_self (b := min visits pays - parts) (a := cap - 1) (by omega)
  omega
theorem swp_nonneg (cap visits pays parts epl : Int) (h1 : 1 ≤ cap) (h : 1 ≤ min visits pays - parts) (he : 1 ≤ epl) : 0 ≤ swp cap visits pays parts epl := by
  have := blocks_pos cap visits pays parts h1 h
  exact Int.ediv_nonneg (by omega) (by omega)
theorem swp_le (cap visits pays parts epl : Int) (h1 : 1 ≤ cap) (h : 1 ≤ min visits pays - parts) : swp cap visits pays parts epl ≤ cap := by
  have h2 := blocks_pos cap visits pays parts h1 h
  have h3 := blocks_le cap visits pays parts h1
  have := Int.ediv_le_self (b := epl) (a := blocks cap visits pays parts - 1) (by omega)
  unfold swp
  omega

theorem bound_zero (e : Int) (o : Option Int) : bound e o [0] = bound e o [] := by
  cases o with
  | none => rfl
  | some k =>
    simp only [bound, Option.bind_some, List.cons_append, List.nil_append, lat]
    repeat' split
    all_goals first | rfl | omega | simp

theorem bound_pay (e u s : Int) (o : Option Int) (hu : 0 ≤ u) (hs : 0 ≤ s) : bound e o [u + s] = bound e o [u, s] := by
  cases o with
  | none => rfl
  | some k =>
    simp only [bound, Option.bind_some, List.cons_append, List.nil_append, lat]
    repeat' split
    all_goals first | rfl | omega | (simp; omega)

end Go.Proofs.Ytmihnoiofbfbhaa.Pl
