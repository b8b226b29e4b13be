/- status.table: a map of its own, that reads as the statuses' steps, in whatever order the literal is built. status.Next. -/
import Derived.Test.YtgmbgomlicamdaaNb
import Derived.Maps.Own
import Derived.Maps.OwnSet
import Derived.Maps.Views
import Derived.DeepKeys4
namespace Go.Proofs.Ytgmbgomlicamdaa
open Go.RowKit Go.Maps
set_option linter.unusedSimpArgs false
set_option linter.unusedVariables false

theorem tab_laidOut : laidOutB Try.prog = true := by kernel_rfl
theorem tab_row : (69 : TypeId) < Try.prog.types.size := of_decide_eq_true (by kernel_rfl)
theorem tab_wide : (match Try.prog.underlying 69 with | some (.array _ _) | some (.struct _) => true | _ => false) = true := by rw [Try.underlying69]
theorem tab_law : Keyed Try.prog 69 := Keyed.of_law (deep_law_laid tab_laidOut (m := 2) (by omega) tab_row (by kernel_rfl) tab_wide)

/-- A step. -/
abbrev stp (s e : Int) : Value := .agg #[.int .i64 s, .int .i64 e]
/-- What it reads as. -/
def kl (s e : Int) : Lit := .string (keyBytes [.int .i64 s, .int .i64 e])
theorem kl_ne {s e s' e' : Int} (h : keyOf Try.prog 69 (stp s e) = some (kl s e)) (h' : keyOf Try.prog 69 (stp s' e') = some (kl s' e')) (hne : ¬ (s = s' ∧ e = e')) : kl s e ≠ kl s' e' := by
  intro heq
  have := tab_law.inj h (heq ▸ h')
  simp [stp] at this
  exact hne this

/-- The steps that apply, each with its operation's number. -/
def steps : List (Nat × Int × Int × Int) := [(2, 1, 1, 2), (4, 2, 2, 3), (6, 3, 3, 4), (8, 4, 4, 5), (10, 5, 5, 6), (12, 2, 6, 7), (14, 2, 7, 3), (16, 3, 7, 3), (18, 4, 7, 4), (20, 5, 7, 4)]
theorem steps_key : ∀ x ∈ steps, keyOf Try.prog 69 (stp x.2.1 x.2.2.1) = some (kl x.2.1 x.2.2.1) := by
  intro x hx
  simp only [steps, List.mem_cons, List.not_mem_nil, or_false] at hx
  rcases hx with rfl | rfl | rfl | rfl | rfl | rfl | rfl | rfl | rfl | rfl <;> kernel_rfl
theorem steps_inj : ∀ x ∈ steps, ∀ y ∈ steps, (x.2.1 = y.2.1 ∧ x.2.2.1 = y.2.2.1) → x = y := by decide
theorem steps_at : ∀ x ∈ steps, ∀ y ∈ steps, x.1 = y.1 → x = y := by decide
theorem steps_21 : ∀ x ∈ steps, x.1 ≠ 21 ∧ x.1 ≠ 22 ∧ 21 ≠ x.1 ∧ 22 ≠ x.1 ∧ x.1 < 23 := by decide
theorem steps_wf : ∀ x ∈ steps, (Lit.int .i64 x.2.2.2).wf = true := by decide

theorem getD_set (l : Array Bool) (i j : Nat) (d : Bool) (hi : i < l.size) : (l.setIfInBounds i true).getD j d = if i = j then true else l.getD j d := by
  by_cases h : i = j
  · subst h; simp [hi]
  · simp [h, Array.getElem?_setIfInBounds]

/-- An entry of a literal, as the region's operation number i. -/
theorem wpOp_insert {H : Type} {P : Program} {ops : Array Oper} {Q : Exit → Act → World → Prop} {i : Nat} {o : Oper} {a : Act} {w : World} {K' : Act → World → Prop} (ho : ops[i]? = some o)
    (hg : o.guard = none) (m x v : Operand) (t : TypeId) (hop : o.op = Op.insert t m x v) (k e : TypeId) (K : Keyed P k) (ht : P.underlying t = some (.map k e)) (R : Value → Option (DataW H × List MemPlace)) (b n : Nat) (D : DataW H)
    (hm : a.eval m = .map (some b)) (hown : w.ownsMap P k R b n D) (hn : n < maxLen) (key val : Value) (kl : Lit) (hx : a.eval x = key) (hv : a.eval v = val) (hkey : keyOf P k key = some kl)
    (d : DataW H) (ps : List MemPlace) (hval : R val = some (d, ps)) (hK : ∀ w', w'.ownsMap P k R b (n + 1) (D.put kl d) → w.grownBy w' (some b) → K' (a.put o.dst undef) w') : wpOp P ops Q i K' a w := by
  obtain ⟨w', hrun, r1, r2⟩ := hown.update K ht hn hkey hval
  unfold wpOp
  rw [ho]
  have hw : Region.wanted o (yielded ops a.tmps) = true := by simp [Region.wanted, hg]
  simp only [hw, if_true]
  left
  unfold Oper.wp
  simp [execOp, hop, hm, hx, hv, hrun, Result.andThen]
  exact hK w' r1 r2

/-- What the map holds so far. -/
structure TabAt (listed : Array Bool) (D : DataW Unit) : Prop where
  isMap : IsMap D
  at_ : ∀ x ∈ steps, listed.getD x.1 false = true → ∀ z, D.atKey (kl x.2.1 x.2.2.1) z = .lit (.int .i64 x.2.2.2)
  none_ : ∀ l, (∀ x ∈ steps, l ≠ kl x.2.1 x.2.2.1) → ∀ z, D.atKey l z = z

theorem TabAt.put {listed : Array Bool} {D : DataW Unit} (h : TabAt listed D) {x : Nat × Int × Int × Int} (hx : x ∈ steps) : TabAt (listed.setIfInBounds x.1 true) (D.put (kl x.2.1 x.2.2.1) (.lit (.int .i64 x.2.2.2))) := by
  refine ⟨h.isMap.put _ _, fun y hy hl z => ?_, fun l hl z => ?_⟩
  · by_cases he : y.2.1 = x.2.1 ∧ y.2.2.1 = x.2.2.1
    · obtain rfl := steps_inj y hy x hx he
      exact atKey_put_same h.isMap (by unfold kl; trivial) _ z
    · rw [atKey_put_other (kl_ne (steps_key y hy) (steps_key x hx) he)]
      refine h.at_ y hy ?_ z
      have hne : x.1 ≠ y.1 := fun e => by obtain rfl := steps_at x hx y hy e; exact he ⟨rfl, rfl⟩
      simpa [Array.getElem?_setIfInBounds, hne] using hl
  · rw [atKey_put_other (hl x hx)]
    exact h.none_ l hl z
theorem TabAt.more {listed listed' : Array Bool} {D : DataW Unit} (h : TabAt listed D) (hl : ∀ x ∈ steps, listed'.getD x.1 false = listed.getD x.1 false) : TabAt listed' D :=
  ⟨h.isMap, fun x hx hy z => h.at_ x hx (hl x hx ▸ hy) z, h.none_⟩

/-- A map that reads as the whole table. -/
def IsTab (w : World) (b : Nat) : Prop := ∃ (n : Nat) (D : DataW Unit), w.ownsMap Try.prog 69 (plainElem Try.prog 3) b n D ∧ IsMap D ∧ (∀ x ∈ steps, ∀ z, D.atKey (kl x.2.1 x.2.2.1) z = .lit (.int .i64 x.2.2.2)) ∧ ∀ l, (∀ x ∈ steps, l ≠ kl x.2.1 x.2.2.1) → ∀ z, D.atKey l z = z
def TabPost (w : World) (e : Ending) (w' : World) : Prop := ∃ b, e = .returned (.map (some b)) ∧ IsTab w' b ∧ Below w.heap.size w w'

/-- What holds while the literal is built. -/
structure TabInv (w0 : World) (B : Nat) (listed : Array Bool) (a : Act) (w : World) : Prop where
  sz : listed.size = 23
  done : ∀ j ∈ ([0, 1, 3, 5, 7, 9, 11, 13, 15, 17, 19] : List Nat), listed.getD j true = true
  act : ∃ x0 x12 : Value, a = ⟨#[x0, .map (some B), stp 1 1, stp 2 2, stp 3 3, stp 4 4, stp 5 5, stp 2 6, stp 2 7, stp 3 7, stp 4 7, stp 5 7, x12], []⟩ ∧ (listed.getD 21 false = true → x12 = .map (some B)) ∧ (listed.getD 22 false = true → x0 = .map (some B))
  mem : ∃ (n : Nat) (D : DataW Unit), n + left listed ≤ 100 ∧ w.ownsMap Try.prog 69 (plainElem Try.prog 3) B n D ∧ TabAt listed D
  bel : Below w0.heap.size w0 w ∧ w0.heap.size ≤ B
theorem TabInv.listedSet {w0 : World} {B i : Nat} {listed : Array Bool} {a : Act} {w : World} (h : TabInv w0 B listed a w) (hi : i < 23) : (listed.setIfInBounds i true).size = 23 ∧ ∀ j ∈ ([0, 1, 3, 5, 7, 9, 11, 13, 15, 17, 19] : List Nat), (listed.setIfInBounds i true).getD j true = true := by
  refine ⟨by simpa using h.sz, fun j hj => ?_⟩
  rw [getD_set _ _ _ _ (by rw [h.sz]; exact hi)]
  split
  · rfl
  · exact h.done j hj
theorem split23 : ∀ i, i < 23 → i ∈ ([0, 1, 3, 5, 7, 9, 11, 13, 15, 17, 19] : List Nat) ∨ i = 21 ∨ i = 22 ∨ ∃ x ∈ steps, x.1 = i := by decide


set_option maxHeartbeats 4000000 in
theorem table_any (w : World) : Calls Try.prog 34 #[] w (TabPost w) := by
  go_enter Try.func34, Try.ntmps34
  go_wp2_with fail
  refine wp_region_held_drew (S := fun _ => True) (by kernel_rfl) trivial (fun _ => ?_)
  refine wpAnyH_take (i := 1) (v := ?v1) rfl (by kernel_rfl) (by kernel_rfl) (by kernel_rfl) (fun _ _ _ h => h) (Or.inl ⟨by rfl, ?y1⟩) trivial ?z1
  case y1 => intro w hSw; go_simp; (try with_reducible rfl)
  try simp only [Act.put, List.getElem_toArray, List.getElem_cons_succ, List.getElem_cons_zero, List.setIfInBounds_toArray, List.set_cons_zero, List.set_cons_succ]
  refine wpAnyH_take (i := 3) (v := ?v3) rfl (by kernel_rfl) (by kernel_rfl) (by kernel_rfl) (fun _ _ _ h => h) (Or.inl ⟨by rfl, ?y3⟩) trivial ?z3
  case y3 => intro w hSw; go_simp; (try with_reducible rfl)
  try simp only [Act.put, List.getElem_toArray, List.getElem_cons_succ, List.getElem_cons_zero, List.setIfInBounds_toArray, List.set_cons_zero, List.set_cons_succ]
  refine wpAnyH_take (i := 5) (v := ?v5) rfl (by kernel_rfl) (by kernel_rfl) (by kernel_rfl) (fun _ _ _ h => h) (Or.inl ⟨by rfl, ?y5⟩) trivial ?z5
  case y5 => intro w hSw; go_simp; (try with_reducible rfl)
  try simp only [Act.put, List.getElem_toArray, List.getElem_cons_succ, List.getElem_cons_zero, List.setIfInBounds_toArray, List.set_cons_zero, List.set_cons_succ]
  refine wpAnyH_take (i := 7) (v := ?v7) rfl (by kernel_rfl) (by kernel_rfl) (by kernel_rfl) (fun _ _ _ h => h) (Or.inl ⟨by rfl, ?y7⟩) trivial ?z7
  case y7 => intro w hSw; go_simp; (try with_reducible rfl)
  try simp only [Act.put, List.getElem_toArray, List.getElem_cons_succ, List.getElem_cons_zero, List.setIfInBounds_toArray, List.set_cons_zero, List.set_cons_succ]
  refine wpAnyH_take (i := 9) (v := ?v9) rfl (by kernel_rfl) (by kernel_rfl) (by kernel_rfl) (fun _ _ _ h => h) (Or.inl ⟨by rfl, ?y9⟩) trivial ?z9
  case y9 => intro w hSw; go_simp; (try with_reducible rfl)
  try simp only [Act.put, List.getElem_toArray, List.getElem_cons_succ, List.getElem_cons_zero, List.setIfInBounds_toArray, List.set_cons_zero, List.set_cons_succ]
  refine wpAnyH_take (i := 11) (v := ?v11) rfl (by kernel_rfl) (by kernel_rfl) (by kernel_rfl) (fun _ _ _ h => h) (Or.inl ⟨by rfl, ?y11⟩) trivial ?z11
  case y11 => intro w hSw; go_simp; (try with_reducible rfl)
  try simp only [Act.put, List.getElem_toArray, List.getElem_cons_succ, List.getElem_cons_zero, List.setIfInBounds_toArray, List.set_cons_zero, List.set_cons_succ]
  refine wpAnyH_take (i := 13) (v := ?v13) rfl (by kernel_rfl) (by kernel_rfl) (by kernel_rfl) (fun _ _ _ h => h) (Or.inl ⟨by rfl, ?y13⟩) trivial ?z13
  case y13 => intro w hSw; go_simp; (try with_reducible rfl)
  try simp only [Act.put, List.getElem_toArray, List.getElem_cons_succ, List.getElem_cons_zero, List.setIfInBounds_toArray, List.set_cons_zero, List.set_cons_succ]
  refine wpAnyH_take (i := 15) (v := ?v15) rfl (by kernel_rfl) (by kernel_rfl) (by kernel_rfl) (fun _ _ _ h => h) (Or.inl ⟨by rfl, ?y15⟩) trivial ?z15
  case y15 => intro w hSw; go_simp; (try with_reducible rfl)
  try simp only [Act.put, List.getElem_toArray, List.getElem_cons_succ, List.getElem_cons_zero, List.setIfInBounds_toArray, List.set_cons_zero, List.set_cons_succ]
  refine wpAnyH_take (i := 17) (v := ?v17) rfl (by kernel_rfl) (by kernel_rfl) (by kernel_rfl) (fun _ _ _ h => h) (Or.inl ⟨by rfl, ?y17⟩) trivial ?z17
  case y17 => intro w hSw; go_simp; (try with_reducible rfl)
  try simp only [Act.put, List.getElem_toArray, List.getElem_cons_succ, List.getElem_cons_zero, List.setIfInBounds_toArray, List.set_cons_zero, List.set_cons_succ]
  refine wpAnyH_take (i := 19) (v := ?v19) rfl (by kernel_rfl) (by kernel_rfl) (by kernel_rfl) (fun _ _ _ h => h) (Or.inl ⟨by rfl, ?y19⟩) trivial ?z19
  case y19 => intro w hSw; go_simp; (try with_reducible rfl)
  try simp only [Act.put, List.getElem_toArray, List.getElem_cons_succ, List.getElem_cons_zero, List.setIfInBounds_toArray, List.set_cons_zero, List.set_cons_succ]
  refine wpAnyH_ready (rs := [0]) (by kernel_rfl) (by simp) (AllReadyH.cons rfl (fun K hK => ?_) AllReadyH.nil)
  go_simp
  refine hK.out _ _ trivial (fun _ => ?_)
  clear hK K
  try simp only [Act.put, List.getElem_toArray, List.getElem_cons_succ, List.getElem_cons_zero, List.setIfInBounds_toArray, List.set_cons_zero, List.set_cons_succ]
  have hB0 : Below w.heap.size w (w.drew.alloc (.map #[] 0)) := (Below.refl _ _).drew.alloc (Nat.le_refl _) _
  have hM0 := World.ownsMap_made (H := Unit) w.drew Try.prog 69 (plainElem Try.prog 3)
  refine wpAnyH_inv (TabInv w w.heap.size) ?hb ?step ?fin _ _ _ _ ⟨rfl, by decide, ⟨_, _, rfl, fun h => absurd h (by decide), fun h => absurd h (by decide)⟩, ⟨0, _, by decide, hM0, ⟨isMap_empty, fun x hx h => ?h1, fun l hl z => rfl⟩⟩, hB0, Nat.le_refl _⟩ (by decide)
  case h1 => exact absurd h (by revert x; decide)
  case hb => kernel_rfl
  case step =>
    intro listed a wr hI i hi hl hr
    have hset := hI.listedSet hi
    obtain ⟨x0, x12, rfl, g21, g22⟩ := hI.act
    obtain ⟨n, D, hle, hown, hT⟩ := hI.mem
    have hleft := left_set hl
    have hn : n < maxLen := by unfold maxLen; omega
    rcases split23 i hi with hm | rfl | rfl | hm
    · exact absurd (hI.done i hm) (by rw [hl]; decide)
    · refine Yields.wpOp (v := .map (some w.heap.size)) rfl (Or.inl ⟨rfl, fun w => rfl⟩) ⟨trivial, ?_⟩
      refine ⟨hset.1, hset.2, ⟨x0, _, rfl, fun _ => rfl, fun h => g22 ?_⟩, ⟨n, D, by omega, hown, hT.more fun x hx => ?_⟩, hI.bel⟩
      · rw [getD_set _ _ _ _ (by rw [hI.sz]; exact hi)] at h; simpa using h
      · rw [getD_set _ _ _ _ (by rw [hI.sz]; exact hi), if_neg]
        revert x; decide
    · have h21 := g21 (ready_waits hr 21 (by kernel_rfl))
      subst h21
      refine Yields.wpOp (v := .map (some w.heap.size)) rfl (Or.inl ⟨rfl, fun w => rfl⟩) ⟨trivial, ?_⟩
      refine ⟨hset.1, hset.2, ⟨_, _, rfl, fun _ => rfl, fun _ => rfl⟩, ⟨n, D, by omega, hown, hT.more fun x hx => ?_⟩, hI.bel⟩
      rw [getD_set _ _ _ _ (by rw [hI.sz]; exact hi), if_neg]
      revert x; decide
    · have next : ∀ x ∈ steps, x.1 = i → ∀ {w' : World}, w'.ownsMap Try.prog 69 (plainElem Try.prog 3) w.heap.size (n + 1) (D.put (kl x.2.1 x.2.2.1) (.lit (.int .i64 x.2.2.2))) → wr.grownBy w' (some w.heap.size) →
          TabInv w w.heap.size (listed.setIfInBounds i true) ⟨#[x0, .map (some w.heap.size), stp 1 1, stp 2 2, stp 3 3, stp 4 4, stp 5 5, stp 2 6, stp 2 7, stp 3 7, stp 4 7, stp 5 7, x12], []⟩ w' := by
        intro x hx hxi w' h1 h2
        subst hxi
        refine ⟨hset.1, hset.2, ⟨x0, x12, rfl, fun h => g21 ?_, fun h => g22 ?_⟩, ⟨n + 1, _, by omega, h1, hT.put hx⟩, hI.bel.1.grown h2 hI.bel.1.size (fun k hk => by cases hk; exact Nat.le_refl _), hI.bel.2⟩
        · rw [getD_set _ _ _ _ (by rw [hI.sz]; exact hi), if_neg (steps_21 x hx).1] at h; exact h
        · rw [getD_set _ _ _ _ (by rw [hI.sz]; exact hi), if_neg (steps_21 x hx).2.1] at h; exact h
      obtain ⟨x, hx, rfl⟩ := hm
      simp only [steps, List.mem_cons, List.not_mem_nil, or_false] at hx
      rcases hx with rfl | rfl | rfl | rfl | rfl | rfl | rfl | rfl | rfl | rfl
      · refine wpOp_insert (H := Unit) (i := 2) rfl rfl _ _ _ 66 rfl 69 3 tab_law Try.underlying66 _ _ n D rfl hown hn _ _ (kl 1 1) rfl rfl (steps_key (2, 1, 1, 2) (by decide)) (.lit (.int .i64 2)) [] (plainElem_int Try.underlying3 (by decide)) (fun w' h1 h2 => ⟨trivial, ?_⟩)
        exact next (2, 1, 1, 2) (by decide) rfl h1 h2
      · refine wpOp_insert (H := Unit) (i := 4) rfl rfl _ _ _ 66 rfl 69 3 tab_law Try.underlying66 _ _ n D rfl hown hn _ _ (kl 2 2) rfl rfl (steps_key (4, 2, 2, 3) (by decide)) (.lit (.int .i64 3)) [] (plainElem_int Try.underlying3 (by decide)) (fun w' h1 h2 => ⟨trivial, ?_⟩)
        exact next (4, 2, 2, 3) (by decide) rfl h1 h2
      · refine wpOp_insert (H := Unit) (i := 6) rfl rfl _ _ _ 66 rfl 69 3 tab_law Try.underlying66 _ _ n D rfl hown hn _ _ (kl 3 3) rfl rfl (steps_key (6, 3, 3, 4) (by decide)) (.lit (.int .i64 4)) [] (plainElem_int Try.underlying3 (by decide)) (fun w' h1 h2 => ⟨trivial, ?_⟩)
        exact next (6, 3, 3, 4) (by decide) rfl h1 h2
      · refine wpOp_insert (H := Unit) (i := 8) rfl rfl _ _ _ 66 rfl 69 3 tab_law Try.underlying66 _ _ n D rfl hown hn _ _ (kl 4 4) rfl rfl (steps_key (8, 4, 4, 5) (by decide)) (.lit (.int .i64 5)) [] (plainElem_int Try.underlying3 (by decide)) (fun w' h1 h2 => ⟨trivial, ?_⟩)
        exact next (8, 4, 4, 5) (by decide) rfl h1 h2
      · refine wpOp_insert (H := Unit) (i := 10) rfl rfl _ _ _ 66 rfl 69 3 tab_law Try.underlying66 _ _ n D rfl hown hn _ _ (kl 5 5) rfl rfl (steps_key (10, 5, 5, 6) (by decide)) (.lit (.int .i64 6)) [] (plainElem_int Try.underlying3 (by decide)) (fun w' h1 h2 => ⟨trivial, ?_⟩)
        exact next (10, 5, 5, 6) (by decide) rfl h1 h2
      · refine wpOp_insert (H := Unit) (i := 12) rfl rfl _ _ _ 66 rfl 69 3 tab_law Try.underlying66 _ _ n D rfl hown hn _ _ (kl 2 6) rfl rfl (steps_key (12, 2, 6, 7) (by decide)) (.lit (.int .i64 7)) [] (plainElem_int Try.underlying3 (by decide)) (fun w' h1 h2 => ⟨trivial, ?_⟩)
        exact next (12, 2, 6, 7) (by decide) rfl h1 h2
      · refine wpOp_insert (H := Unit) (i := 14) rfl rfl _ _ _ 66 rfl 69 3 tab_law Try.underlying66 _ _ n D rfl hown hn _ _ (kl 2 7) rfl rfl (steps_key (14, 2, 7, 3) (by decide)) (.lit (.int .i64 3)) [] (plainElem_int Try.underlying3 (by decide)) (fun w' h1 h2 => ⟨trivial, ?_⟩)
        exact next (14, 2, 7, 3) (by decide) rfl h1 h2
      · refine wpOp_insert (H := Unit) (i := 16) rfl rfl _ _ _ 66 rfl 69 3 tab_law Try.underlying66 _ _ n D rfl hown hn _ _ (kl 3 7) rfl rfl (steps_key (16, 3, 7, 3) (by decide)) (.lit (.int .i64 3)) [] (plainElem_int Try.underlying3 (by decide)) (fun w' h1 h2 => ⟨trivial, ?_⟩)
        exact next (16, 3, 7, 3) (by decide) rfl h1 h2
      · refine wpOp_insert (H := Unit) (i := 18) rfl rfl _ _ _ 66 rfl 69 3 tab_law Try.underlying66 _ _ n D rfl hown hn _ _ (kl 4 7) rfl rfl (steps_key (18, 4, 7, 4) (by decide)) (.lit (.int .i64 4)) [] (plainElem_int Try.underlying3 (by decide)) (fun w' h1 h2 => ⟨trivial, ?_⟩)
        exact next (18, 4, 7, 4) (by decide) rfl h1 h2
      · refine wpOp_insert (H := Unit) (i := 20) rfl rfl _ _ _ 66 rfl 69 3 tab_law Try.underlying66 _ _ n D rfl hown hn _ _ (kl 5 7) rfl rfl (steps_key (20, 5, 7, 4) (by decide)) (.lit (.int .i64 4)) [] (plainElem_int Try.underlying3 (by decide)) (fun w' h1 h2 => ⟨trivial, ?_⟩)
        exact next (20, 5, 7, 4) (by decide) rfl h1 h2
  case fin =>
    intro listed a wr hI hall
    obtain ⟨x0, x12, rfl, g21, g22⟩ := hI.act
    obtain ⟨n, D, hle, hown, hT⟩ := hI.mem
    have hall' : ∀ i, i < 23 → listed.getD i false = true := fun i hi => by
      have := hall i hi
      have hs := hI.sz
      simpa [hs, hi] using this
    obtain rfl := g22 (hall' 22 (by omega))
    have hp : TabPost w (.returned (.map (some w.heap.size))) wr := ⟨_, rfl, ⟨n, D, hown, hT.isMap, fun x hx z => hT.at_ x hx (hall' _ (by revert x; decide)) z, hT.none_⟩, hI.bel.1⟩
    have HP := Lib.hid hp
    clear hp hT hown g21 g22 hall hall' hI
    go_wp2
    go_ret
    exact HP.out
end Go.Proofs.Ytgmbgomlicamdaa