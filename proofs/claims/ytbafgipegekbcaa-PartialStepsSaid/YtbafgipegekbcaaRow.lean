/- Slices of structs: rows of elements of k cells each. Nothing of the program's text. -/
import Derived.Test.YtbafgipegekbcaaNb
import Derived.Test.YtbafgipegekbcaaApp
namespace Go.Proofs.Ytbafgipegekbcaa
open Go.RowKit
set_option linter.unusedVariables false

section
variable {α : Type} {f : α → List Value} {k : Nat}

/-- The cells of a row. -/
def flat (f : α → List Value) (xs : List α) : List Value := xs.flatMap f
theorem flat_nil : flat f [] = [] := rfl
theorem flat_cons (x : α) (xs : List α) : flat f (x :: xs) = f x ++ flat f xs := rfl
theorem flat_append (xs ys : List α) : flat f (xs ++ ys) = flat f xs ++ flat f ys := List.flatMap_append
theorem flat_one (x : α) : flat f [x] = f x := by simp [flat]
theorem flat_len (hk : ∀ x, (f x).length = k) (xs : List α) : (flat f xs).length = xs.length * k := by
  induction xs with
  | nil => simp [flat]
  | cons x t ih => rw [flat_cons, List.length_append, hk, ih, List.length_cons, Nat.succ_mul]; omega
theorem flat_at (hk : ∀ x, (f x).length = k) (xs : List α) (q r : Nat) (hq : q < xs.length) (hr : r < k) : (flat f xs)[q * k + r]? = (f xs[q])[r]? := by
  induction xs generalizing q with
  | nil => simp at hq
  | cons x t ih =>
    rw [flat_cons]
    cases q with
    | zero => rw [List.getElem?_append_left (by rw [hk]; omega)]; simp
    | succ q =>
      have h1 : q < t.length := by simpa using hq
      have e : (q + 1) * k + r = k + (q * k + r) := by rw [Nat.succ_mul]; omega
      rw [List.getElem?_append_right (by rw [hk]; omega), hk, e, Nat.add_sub_cancel_left, ih q h1]
      simp
theorem flat_inj_len (hk : ∀ x, (f x).length = k) (h0 : 0 < k) {n : Nat} (xs : List α) (h : (flat f xs).length = n * k) : n = xs.length := by
  rw [flat_len hk] at h
  exact (Nat.eq_of_mul_eq_mul_right h0 h).symm

/-- The slice (a, n) reads as the elements xs. -/
def Row (f : α → List Value) (w : World) (a : Option Addr) (n : Nat) (xs : List α) : Prop :=
  n = xs.length ∧ (xs = [] ∨ ∃ b o, a = some ⟨b, o, none⟩ ∧ b < w.heap.size ∧ w.rangeAt b o (flat f xs))

theorem Row.elem {w : World} {b o : Nat} {xs : List α} (hk : ∀ x, (f x).length = k) (h : w.rangeAt b o (flat f xs)) (j : Nat) (hj : j < xs.length) : w.rangeAt b (o + j * k) (f xs[j]) := by
  intro r v hv
  have hr : r < k := by have := (List.getElem?_eq_some_iff.1 hv).1; rwa [hk] at this
  have := h (j * k + r) v (by rw [flat_at hk xs j r hj hr]; exact hv)
  rwa [Nat.add_assoc]
theorem Row.keep {w w' : World} {a : Option Addr} {n : Nat} {xs : List α} (h : Row f w a n xs) (hs : w.heap.size ≤ w'.heap.size) (hk : ∀ ad, a = some ad → ad.block < w.heap.size → w'.heap[ad.block]? = w.heap[ad.block]?) : Row f w' a n xs := by
  refine ⟨h.1, ?_⟩
  rcases h.2 with h | ⟨b, o, rfl, hl, hc⟩
  · exact .inl h
  · exact .inr ⟨b, o, rfl, by omega, fun j v hv => (World.cell?_of_block (w := w) (a := ⟨b, o + j, none⟩) (hk ⟨b, o, none⟩ rfl hl)).trans (hc j v hv)⟩
theorem Row.call {w w' : World} {a : Option Addr} {n : Nat} {xs : List α} (h : Row f w a n xs) (hb : Below w.heap.size w w') : Row f w' a n xs := h.keep hb.size (fun _ _ hl => hb.block _ hl)
theorem Row.alloc {w : World} {a : Option Addr} {n : Nat} {xs : List α} (h : Row f w a n xs) (o : Obj) : Row f (w.alloc o) a n xs := h.call ((Below.refl _ _).alloc (Nat.le_refl _) _)
theorem Row.drewN {w : World} {a : Option Addr} {n : Nat} {xs : List α} (h : Row f w a n xs) (m : Nat) : Row f (w.drewN m) a n xs := h

theorem row_of_own {w : World} {base e : TypeId} {n m c : Nat} {a : Option Addr} {xs : List α} (hk : ∀ x, (f x).length = k) (h0 : 0 < k) (h : w.ownsRow base e k (.slice a m c) n (flat f xs)) : Row f w a n xs := by
  have hl := h.lt
  obtain ⟨h1, h2⟩ := h
  refine ⟨flat_inj_len hk h0 xs h1, ?_⟩
  rcases h2 with ⟨_, h2⟩ | ⟨g, cap, cur, hv, hb, hg, hc, _, hs, ht⟩
  · subst h2
    left
    have : xs.length * k = 0 := by rw [← flat_len hk, h1]; simp
    rcases Nat.mul_eq_zero.1 this with h | h
    · exact List.eq_nil_of_length_eq_zero h
    · omega
  · right
    simp only [Value.slice.injEq] at hv
    obtain ⟨rfl, rfl, rfl⟩ := hv
    refine ⟨g, 0, rfl, (Array.getElem?_eq_some_iff.1 hg).1, fun j v hj => ?_⟩
    rw [cell_of_row w g _ cur e (0, 0) hg, Nat.zero_add]
    rw [← ht, List.getElem?_take] at hj
    split at hj
    · simpa using hj
    · cases hj

/-- Cells are put in, one behind the other. -/
def setL : List Value → Nat → List Value → List Value
  | xs, _, [] => xs
  | xs, j, v :: r => setL (xs.set j v) (j + 1) r
theorem setL_len (vs : List Value) : ∀ (xs : List Value) (j : Nat), (setL xs j vs).length = xs.length := by
  induction vs with
  | nil => intro xs j; rfl
  | cons v r ih => intro xs j; rw [setL, ih]; simp
theorem setL_at (vs : List Value) : ∀ (xs : List Value) (j m : Nat), j + vs.length ≤ xs.length → (setL xs j vs)[m]? = if j ≤ m ∧ m < j + vs.length then vs[m - j]? else xs[m]? := by
  induction vs with
  | nil => intro xs j m h; rw [setL, if_neg (by simp)]
  | cons v r ih =>
    intro xs j m h
    rw [List.length_cons] at h
    rw [setL, ih _ _ _ (by simp; omega)]
    by_cases h1 : j + 1 ≤ m ∧ m < j + 1 + r.length
    · rw [if_pos h1, if_pos (by rw [List.length_cons]; omega), show m - j = (m - (j + 1)) + 1 from by omega]
      simp
    · rw [if_neg h1, List.getElem?_set]
      by_cases h2 : j = m
      · subst h2
        rw [if_pos rfl, if_pos (by omega), if_pos (by rw [List.length_cons]; omega)]
        simp
      · rw [if_neg h2, if_neg (by rw [List.length_cons]; omega)]
theorem flat_setL (hk : ∀ x, (f x).length = k) (h0 : 0 < k) (xs : List α) (i : Nat) (x : α) (hi : i < xs.length) : setL (flat f xs) (i * k) (f x) = flat f (xs.set i x) := by
  have hle : (i + 1) * k ≤ xs.length * k := Nat.mul_le_mul_right k hi
  rw [Nat.succ_mul] at hle
  refine List.ext_getElem? fun m => ?_
  rw [setL_at _ _ _ _ (by rw [flat_len hk, hk]; exact hle), hk]
  have hm : m = m / k * k + m % k := by rw [Nat.mul_comm, Nat.div_add_mod]
  have hr : m % k < k := Nat.mod_lt _ h0
  by_cases hq : m / k < xs.length
  · by_cases h1 : m / k = i
    · have h2 : i * k ≤ m ∧ m < i * k + k := by rw [← h1]; omega
      rw [if_pos h2, show (flat f (xs.set i x))[m]? = (flat f (xs.set i x))[m / k * k + m % k]? from by rw [← hm], flat_at hk _ _ _ (by simpa using hq) hr]
      have e : m - i * k = m % k := by rw [← h1]; omega
      rw [e]
      simp [h1]
    · have h2 : ¬ (i * k ≤ m ∧ m < i * k + k) := by
        intro h2
        refine h1 (Nat.le_antisymm ?_ ?_)
        · exact Nat.le_of_lt_succ ((Nat.div_lt_iff_lt_mul h0).2 (by rw [Nat.succ_mul]; omega))
        · exact (Nat.le_div_iff_mul_le h0).2 h2.1
      rw [if_neg h2, show (flat f (xs.set i x))[m]? = (flat f (xs.set i x))[m / k * k + m % k]? from by rw [← hm], flat_at hk _ _ _ (by simpa using hq) hr,
        show (flat f xs)[m]? = (flat f xs)[m / k * k + m % k]? from by rw [← hm], flat_at hk _ _ _ hq hr]
      rw [List.getElem_set_ne (Ne.symm h1)]
  · have hlen : xs.length * k ≤ m := by
      have := (Nat.le_div_iff_mul_le h0).1 (Nat.le_of_not_lt hq)
      exact this
    rw [if_neg (by omega), List.getElem?_eq_none (by rw [flat_len hk]; exact hlen), List.getElem?_eq_none (by rw [flat_len hk]; simpa using hlen)]

theorem own_setCells {base e : TypeId} {g n c : Nat} (vs : List Value) : ∀ {w : World} {xs : List Value} (j : Nat), w.ownsRow base e k (.slice (some ⟨g, 0, none⟩) n c) n xs →
    (w.setCells g j vs).ownsRow base e k (.slice (some ⟨g, 0, none⟩) n c) n (setL xs j vs) ∧ w.grownBy (w.setCells g j vs) (some g) := by
  induction vs with
  | nil => intro w xs j h; exact ⟨h, World.grownBy.refl _ _⟩
  | cons v r ih =>
    intro w xs j h
    obtain ⟨h1, h2⟩ := h.stored j v
    obtain ⟨h3, h4⟩ := ih (j + 1) h1
    refine ⟨h3, ⟨h4.os.trans h2.os, h4.tape.trans h2.tape, h4.output.trans h2.output, Nat.le_trans h2.size h4.size, fun i hi hne => ?_⟩⟩
    exact (h4.block i (Nat.lt_of_lt_of_le hi h2.size) hne).trans (h2.block i hi hne)

/-- An element of an own row is written. -/
theorem own_put {w : World} {base e : TypeId} {g n c : Nat} {xs : List α} (hk : ∀ x, (f x).length = k) (h0 : 0 < k) (h : w.ownsRow base e k (.slice (some ⟨g, 0, none⟩) n c) n (flat f xs)) (i : Nat) (hi : i < n) (x : α) :
    (w.setCells g (i * k) (f x)).ownsRow base e k (.slice (some ⟨g, 0, none⟩) n c) n (flat f (xs.set i x)) ∧ w.grownBy (w.setCells g (i * k) (f x)) (some g) := by
  have hn := flat_inj_len hk h0 xs h.1
  have := own_setCells (f x) (i * k) h
  rwa [flat_setL hk h0 xs i x (by omega)] at this

theorem own_there {w : World} {base e : TypeId} {g n c : Nat} {xs : List α} (hk : ∀ x, (f x).length = k) (h0 : 0 < k) (h : w.ownsRow base e k (.slice (some ⟨g, 0, none⟩) n c) n (flat f xs)) (i : Nat) (hi : i < n) : w.there g (i * k) k := by
  intro j hj
  have hn := flat_inj_len hk h0 xs h.1
  have hlt : i * k + j < n * k := by
    have : (i + 1) * k ≤ n * k := Nat.mul_le_mul_right k hi
    rw [Nat.succ_mul] at this
    omega
  refine ⟨?_, h.frozenAt _⟩
  rw [h.cellAt _ hlt, flat_at hk xs i j (by omega) hj, List.getElem?_eq_getElem (by rw [hk]; exact hj)]
  rfl

/-- Every cell of the row is one. -/
theorem flat_cell (h1 : ∀ x, ∀ v ∈ f x, v.oneCell' = true) (xs : List α) : ∀ v ∈ flat f xs, v.oneCell' = true := by
  intro v hv
  obtain ⟨x, _, hx⟩ := List.mem_flatMap.1 hv
  exact h1 x v hx

/-- append of a row that reads as elements to a row of the call's own. -/
theorem wpList_appendR {P : Program} {ops : Array Oper} {rest : List Oper} {o : Oper} {a : Act} {Q : Exit → Act → World → Prop} {w : World} {v : Value} {e : TypeId} {base n bytes m c : Nat} {xs ys : List α} {A : Option Addr} (t : TypeId) {s x : Operand}
    (hk : ∀ x, (f x).length = k) (h0 : 0 < k) (h1 : ∀ x, ∀ v ∈ f x, v.oneCell' = true)
    (hown : w.ownsRow base e k v n (flat f xs)) (hr : Row f w A m ys) (z : Value) (ht : P.underlying t = some (.slice e)) (hi : (P.info? e).map (fun i => (i.zero, i.size, i.bytes)) = some (some z, k, bytes)) (hzs : z.cells.size = k)
    (hn : (n + m) * bytes ≤ 140737488355328) (hn' : n + m ≤ 1000000000) (hbase : base ≤ w.heap.size)
    (hgd : o.guard = none) (ho : o.op = .call { callee := .builtin .append, args := #[s, x], argTypes := #[t, t] }) (hs : a.eval s = v) (hx : a.eval x = .slice A m c)
    (h : ∀ v' w', w'.ownsRow base e k v' (n + m) (flat f (xs ++ ys)) → w.grownBy w' v.ownBlock → (v'.ownBlock = v.ownBlock ∨ v'.ownBlock = some w.heap.size) → wpList P ops Q rest (a.put o.dst v') w') : wpList P ops Q (o :: rest) a w := by
  obtain ⟨i, hi1, hi2, hi3, hi4⟩ := info_parts hi
  obtain ⟨hm, hr⟩ := hr
  rcases A with _ | ⟨b, off, spot⟩
  · have hz : ys = [] := by
      rcases hr with h | ⟨b, off, h, _⟩
      · exact h
      · cases h
    subst hz
    have hm : m = 0 := by simpa using hm
    subst hm
    have hrun := run_append_nothing (P := P) w (ty := o.type) ht hi1 hown c
    refine wpList_plain hgd fun K hK => ?_
    unfold Oper.wp
    simp [execOp, ho, resolve, invoke, builtin, hs, hx, hrun, Result.andThen]
    exact hK _ _ (h v w (by simpa using hown) (World.grownBy.refl _ _) (.inl rfl))
  · refine wpList_append_own_at w hgd s x t ho base e i z k bytes ht hi1 hi2 hi3 hi4 hzs h0 v n (flat f xs) hs hown ⟨b, off, spot⟩ m c (flat f ys) hx (by rw [flat_len hk, hm]) ?_ (flat_cell h1 ys) ?_ hn hbase ?_
    · intro j y hj
      rcases hr with hr | ⟨b', off', hr, _, hc⟩
      · subst hr; simp [flat] at hj
      · simp only [Option.some.injEq, Addr.mk.injEq] at hr
        obtain ⟨rfl, rfl, rfl⟩ := hr
        rw [add_off]
        exact hc j y hj
    · unfold maxLen; omega
    · intro v' w' h2 h3 _ h5
      rw [← flat_append] at h2
      exact h v' w' h2 h3 h5
end

end Go.Proofs.Ytbafgipegekbcaa
