/- Chapter 18: the laws' walks: DeadlineSteps. -/
import Derived.Test.YtmihnoiofbfbhaaDlM
namespace Go.Proofs.Ytmihnoiofbfbhaa
open Go.RowKit
set_option linter.unusedSimpArgs false
set_option maxRecDepth 20000

/-- Where a bound with the unbonding time and the sweep exists, the two earlier bounds exist, and they follow each other. -/
theorem Pl.steps {e a wt fc mc u s p : Int} (hu : 0 ≤ u) (hs : 0 ≤ s) (h : Pl.bound e (Pl.bnd a wt fc mc) [u, s] = some p) :
    ∃ x, Pl.bound e (Pl.bnd a wt fc mc) [] = some x ∧ Pl.bound e (Pl.bnd a wt fc mc) [u] = some (x + u) ∧ p = x + u + s ∧ e + 2 ≤ x ∧ 0 ≤ e ∧ x + u + s ≤ 1099511627776 := by
  have hk1 : ∀ k, Pl.bnd a wt fc mc = some k → 1 ≤ k := by
    intro k hk
    unfold Pl.bnd at hk
    split at hk
    · cases hk
    · cases he : Pl.epo (a + wt + fc) mc with
      | none => rw [he] at hk; cases hk
      | some n =>
        rw [he] at hk
        simp only [Option.map_some, Option.some.injEq] at hk
        omega
  generalize Pl.bnd a wt fc mc = b at *
  cases b with
  | none => simp [Pl.bound] at h
  | some k =>
    have hk := hk1 k rfl
    simp only [Pl.bound, Option.bind_some, List.cons_append, List.nil_append, Pl.lat] at h ⊢
    by_cases h1 : e < 0 ∨ 1099511627776 - 0 < e
    · rw [if_pos h1] at h; cases h
    rw [if_neg h1] at h ⊢
    by_cases h2 : k < 0 ∨ 1099511627776 - (0 + e) < k
    · rw [if_pos h2] at h; cases h
    rw [if_neg h2] at h ⊢
    by_cases h3 : (1 : Int) < 0 ∨ 1099511627776 - (0 + e + k) < 1
    · rw [if_pos h3] at h; cases h
    rw [if_neg h3] at h ⊢
    by_cases h4 : u < 0 ∨ 1099511627776 - (0 + e + k + 1) < u
    · rw [if_pos h4] at h; cases h
    rw [if_neg h4] at h
    by_cases h5 : s < 0 ∨ 1099511627776 - (0 + e + k + 1 + u) < s
    · rw [if_pos h5] at h; cases h
    rw [if_neg h5] at h
    simp only [Option.some.injEq] at h
    refine ⟨0 + e + k + 1, rfl, ?_, by omega, by omega, by omega, by omega⟩
    rw [if_neg h1, if_neg h2, if_neg h3, if_neg h4]

set_option maxHeartbeats 4000000 in
theorem deadlineSteps_bad (e a wt : Int) (c : Cfg) (w : World) (nok : ¬ c.Ok) : Calls Try.prog 5 #[.agg #[.int .i64 e, .int .u64 a, .int .u64 wt], .agg c.list.toArray] w (Tr w) := by
  have HF := Lib.hid (Two.new w 24 e a wt c)
  have HCk := Lib.hid (fun w => check_any c w)
  have HAl := Lib.hid alive_any
  have HNk := Lib.hid nok
  clear nok
  go_enter Try.func5, Try.ntmps5
  obtain ⟨x0, x1, x2, x10, xc⟩ := HF.out
  clear xc
  go_wp2_with (first | (with_reducible show wpList _ _ _ (_ :: _) _ _; refine wpList_load_cfg (.tmp 3) rfl rfl rfl HF.out.cfg ?_) | fail)
  refine (HCk.out _).mono ?_
  rintro en w0 ⟨⟨r, rfl, hr⟩, hb⟩
  have HF' := Lib.hid (HF.out.next hb)
  clear HF hb x0 x1 x2 x10
  have HF := HF'
  clear HF'
  have hr0 : ¬ r = 0 := fun h => HNk.out (hr.1 h)
  clear hr
  go_wp2_with fail
  refine (HAl.out _).mono ?_
  rintro en w1 ⟨rfl, hb⟩
  have HB := Lib.hid (HF.out.bel.trans (hb.mono HF.out.bel.size))
  clear hb HF
  go_wp2
  go_ret
  exact ⟨rfl, HB.out⟩

set_option maxHeartbeats 8000000 in
theorem deadlineSteps_none {e a wt : Int} {c : Cfg} (w : World) (g : Good a wt c) (hp : Pl.bound e (Pl.bnd a wt c.forced c.minChurn) [c.unb, Pl.swp c.capacity c.visits c.pays c.parts c.epl] = none) : Calls Try.prog 5 #[.agg #[.int .i64 e, .int .u64 a, .int .u64 wt], .agg c.list.toArray] w (Tr w) := by
  have HF := Lib.hid (Two.new w 24 e a wt c)
  have HCk := Lib.hid (fun w => check_any c w)
  have HAl := Lib.hid alive_any
  have HOk := Lib.hid g.ok
  have HPa := Lib.hid (fun w => pay_any (e := e) g w)
  rw [hp] at HPa
  clear g hp
  go_enter Try.func5, Try.ntmps5
  obtain ⟨x0, x1, x2, x10, xc⟩ := HF.out
  clear xc
  go_wp2_with (first | (with_reducible show wpList _ _ _ (_ :: _) _ _; refine wpList_load_cfg (.tmp 3) rfl rfl rfl HF.out.cfg ?_) | fail)
  refine (HCk.out _).mono ?_
  rintro en w0 ⟨⟨r, rfl, hr⟩, hb⟩
  have HF' := Lib.hid (HF.out.next hb)
  clear HF hb x0 x1 x2 x10
  have HF := HF'
  clear HF'
  obtain rfl : r = 0 := hr.2 HOk.out
  clear hr HOk HCk
  obtain ⟨x0, x1, x2, x10, xc⟩ := HF.out
  clear xc
  go_wp2_with (first | (with_reducible show wpList _ _ _ (_ :: _) _ _; refine wpList_load_cfg (.tmp 3) rfl rfl rfl HF.out.cfg ?_) | fail)
  refine (HPa.out _).mono ?_
  rintro en w1 ⟨rfl, hb⟩
  have HF' := Lib.hid (HF.out.next hb)
  clear HF hb x0 x1 x2 x10
  have HF := HF'
  clear HF'
  simp only [Pl.oV, Pl.oB, Option.getD_none, Option.isSome_none]
  go_wp2_with fail
  refine (HAl.out _).mono ?_
  rintro en w2 ⟨rfl, hb⟩
  have HB := Lib.hid (HF.out.bel.trans (hb.mono HF.out.bel.size))
  clear hb HF
  go_wp2
  go_ret
  exact ⟨rfl, HB.out⟩

set_option maxHeartbeats 8000000 in
theorem deadlineSteps_some {e a wt x u sw : Int} {c : Cfg} (w : World) (g : Good a wt c) (hu : c.unb = u) (hp : ∀ w, Calls Try.prog 16 #[.int .i64 e, .int .u64 a, .int .u64 wt, .agg c.list.toArray] w (Ans (some (x + u + sw)) w))
    (hx : ∀ w, Calls Try.prog 13 #[.int .i64 e, .int .u64 a, .int .u64 wt, .agg c.list.toArray] w (Ans (some x) w))
    (hw : ∀ w, Calls Try.prog 15 #[.int .i64 e, .int .u64 a, .int .u64 wt, .agg c.list.toArray] w (Ans (some (x + u)) w))
    (hs : ∀ w, Calls Try.prog 18 #[.agg c.list.toArray] w fun e w' => e = .returned (.int .i64 sw) ∧ Below w.heap.size w w')
    (h1 : e + 2 ≤ x) (w1 : IntKind.i64.wrap (e + 2) = e + 2) (w2 : IntKind.i64.wrap (x + u) = x + u) (w3 : IntKind.i64.wrap (x + u + sw) = x + u + sw) : Calls Try.prog 5 #[.agg #[.int .i64 e, .int .u64 a, .int .u64 wt], .agg c.list.toArray] w (Tr w) := by
  have HF := Lib.hid (Two.new w 24 e a wt c)
  have HCk := Lib.hid (fun w => check_any c w)
  have HAl := Lib.hid alive_any
  have HOk := Lib.hid g.ok
  have HU := Lib.hid hu
  have HPa := Lib.hid hp
  have HEx := Lib.hid hx
  have HWi := Lib.hid hw
  have HSw := Lib.hid hs
  clear g hu hp hx hw hs
  go_enter Try.func5, Try.ntmps5
  obtain ⟨x0, x1, x2, x10, xc⟩ := HF.out
  clear xc
  go_wp2_with (first | (with_reducible show wpList _ _ _ (_ :: _) _ _; refine wpList_load_cfg (.tmp 3) rfl rfl rfl HF.out.cfg ?_) | fail)
  refine (HCk.out _).mono ?_
  rintro en w0 ⟨⟨r, rfl, hr⟩, hb⟩
  have HF' := Lib.hid (HF.out.next hb)
  clear HF hb x0 x1 x2 x10
  have HF := HF'
  clear HF'
  obtain rfl : r = 0 := hr.2 HOk.out
  clear hr HOk HCk
  obtain ⟨x0, x1, x2, x10, xc⟩ := HF.out
  clear xc
  go_wp2_with (first | (with_reducible show wpList _ _ _ (_ :: _) _ _; refine wpList_load_cfg (.tmp 3) rfl rfl rfl HF.out.cfg ?_) | fail)
  refine (HPa.out _).mono ?_
  rintro en w1 ⟨rfl, hb⟩
  have HF' := Lib.hid (HF.out.next hb)
  clear HF hb x0 x1 x2 x10
  have HF := HF'
  clear HF'
  simp only [Pl.oV, Pl.oB, Option.getD_some, Option.isSome_some]
  obtain ⟨x0, x1, x2, x10, xc⟩ := HF.out
  clear xc
  go_wp2_with (first | (with_reducible show wpList _ _ _ (_ :: _) _ _; refine wpList_load_cfg (.tmp 3) rfl rfl rfl HF.out.cfg ?_) | fail)
  refine (HEx.out _).mono ?_
  rintro en w2 ⟨rfl, hb⟩
  have HF' := Lib.hid (HF.out.next hb)
  clear HF hb x0 x1 x2 x10
  have HF := HF'
  clear HF'
  simp only [Pl.oV, Pl.oB, Option.getD_some, Option.isSome_some]
  obtain ⟨x0, x1, x2, x10, xc⟩ := HF.out
  clear xc
  go_wp2_with (first | (with_reducible show wpList _ _ _ (_ :: _) _ _; refine wpList_load_cfg (.tmp 3) rfl rfl rfl HF.out.cfg ?_) | fail)
  refine (HWi.out _).mono ?_
  rintro en w3 ⟨rfl, hb⟩
  have HF' := Lib.hid (HF.out.next hb)
  clear HF hb x0 x1 x2 x10
  have HF := HF'
  clear HF'
  simp only [Pl.oV, Pl.oB, Option.getD_some, Option.isSome_some]
  obtain ⟨x0, x1, x2, x10, xc⟩ := HF.out
  clear xc
  go_wp2_with (first | (with_reducible show wpList _ _ _ (_ :: _) _ _; refine wpList_load_cfg (.tmp 3) rfl rfl rfl HF.out.cfg ?_) | fail)
  refine (HAl.out _).mono ?_
  rintro en w4 ⟨rfl, hb⟩
  have HF' := Lib.hid (HF.out.next hb)
  clear HF hb x0 x1 x2 x10
  have HF := HF'
  clear HF'
  obtain ⟨x0, x1, x2, x10, xc⟩ := HF.out
  clear xc
  rw [HU.out] at x10
  go_wp2_with (first | (with_reducible show wpList _ _ _ (_ :: _) _ _; refine wpList_load_cfg_w (.tmp 3) rfl rfl rfl HF.out.cfg ?_) | fail)
  refine (HSw.out _).mono ?_
  rintro en w5 ⟨rfl, hb⟩
  have HB := Lib.hid (HF.out.bel.trans (hb.mono HF.out.bel.size))
  clear hb HF x0 x1 x2 x10
  go_wp2
  go_ret
  exact ⟨rfl, HB.out⟩

theorem deadlineSteps_walk (e a wt : Int) (c : Cfg) (w : World) (wa : (Lit.int .u64 a).wf = true) (ww : (Lit.int .u64 wt).wf = true) (wf : (Lit.int .u64 c.forced).wf = true) :
    Calls Try.prog 5 #[.agg #[.int .i64 e, .int .u64 a, .int .u64 wt], .agg c.list.toArray] w fun en w' => en = .returned (.bool true) ∧ Below w.heap.size w w' := by
  by_cases ok : c.Ok
  · have g := good_of wa ww wf ok
    cases hp : Pl.bound e (Pl.bnd a wt c.forced c.minChurn) [c.unb, Pl.swp c.capacity c.visits c.pays c.parts c.epl] with
    | none => exact deadlineSteps_none w g hp
    | some p =>
      have hs := swp_good ok
      have hu := ok.h11
      obtain ⟨x, hx, hw, rfl, h1, h2, h3⟩ := Pl.steps (by omega) hs.1 hp
      refine deadlineSteps_some w g rfl (fun w => ?_) (fun w => ?_) (fun w => ?_) (fun w => sweep_good ok w) h1 (IntWalk.i64_in _ (by omega)) (IntWalk.i64_in _ (by omega)) (IntWalk.i64_in _ (by omega))
      · have := pay_any (e := e) g w
        rwa [hp] at this
      · have := exit_any (e := e) g w
        rwa [hx] at this
      · have := withdraw_any (e := e) g w
        rwa [hw] at this
  · exact deadlineSteps_bad e a wt c w ok

end Go.Proofs.Ytmihnoiofbfbhaa
