/- Chapter 18: the laws' walks: DeadlineLimits. -/
import Derived.Test.YtmihnoiofbfbhaaDlM
namespace Go.Proofs.Ytmihnoiofbfbhaa
open Go.RowKit
set_option linter.unusedSimpArgs false
set_option maxRecDepth 20000

theorem Pl.bound_neg (e : Int) (o : Option Int) (more : List Int) (h : e < 0) : Pl.bound e o more = none := by
  cases o with
  | none => rfl
  | some k =>
    simp only [Pl.bound, Option.bind_some, List.cons_append, Pl.lat]
    rw [if_pos (Or.inl h)]

theorem Pl.bnd_over (a w fc mc : Int) (h : 18446744073709551615 < a + w + fc) : Pl.bnd a w fc mc = none := by
  unfold Pl.bnd
  rw [if_pos h]

set_option maxHeartbeats 4000000 in
theorem deadlineLimits_bad (e a wt : Int) (c : Cfg) (w : World) (nok : ¬ c.Ok) : Calls Try.prog 8 #[.agg #[.int .i64 e, .int .u64 a, .int .u64 wt], .agg c.list.toArray] w (Tr w) := by
  have HF := Lib.hid (Two.new w 24 e a wt c)
  have HCk := Lib.hid (fun w => check_any c w)
  have HAl := Lib.hid alive_any
  have HNk := Lib.hid nok
  clear nok
  go_enter Try.func8, Try.ntmps8
  obtain ⟨x0, x1, x2, x10, xc⟩ := HF.out
  clear xc
  go_wp2_with (first | (with_reducible show wpList _ _ _ (_ :: _) _ _; refine wpList_load_cfg (.tmp 3) rfl rfl rfl HF.out.cfg ?_) | fail)
  refine (HCk.out _).mono ?_
  rintro en w0 ⟨⟨r, rfl, hr⟩, hb⟩
  have HF' := Lib.hid (HF.out.next hb)
  clear HF hb x0 x1 x2 x10
  have HF := HF'
  clear HF'
  have hr0 : ¬ r = 0 := fun h => HNk.out (hr.1 h)
  clear hr
  go_wp2_with fail
  refine (HAl.out _).mono ?_
  rintro en w1 ⟨rfl, hb⟩
  have HB := Lib.hid (HF.out.bel.trans (hb.mono HF.out.bel.size))
  clear hb HF
  go_wp2
  go_ret
  exact ⟨rfl, HB.out⟩

set_option maxHeartbeats 8000000 in
theorem deadlineLimits_e0w0 {e a wt : Int} {c : Cfg} (po : Option Int) (w : World) (ok : c.Ok)
    (hp : ∀ w, Calls Try.prog 16 #[.int .i64 e, .int .u64 a, .int .u64 wt, .agg c.list.toArray] w (Ans po w))
    (hn : ∀ m w, m < 0 → Calls Try.prog 16 #[.int .i64 m, .int .u64 1, .int .u64 1, .agg c.list.toArray] w (Ans none w))
    (hb : ∀ m w, 1 ≤ m → m ≤ 18446744073709551615 → Calls Try.prog 11 #[.int .u64 18446744073709551615, .int .u64 m, .agg c.list.toArray] w (Ans none w))
    (h0 : -9223372036854775808 ≤ e) (h1 : e ≤ 9223372036854775807) (h2 : 0 ≤ wt) (h3 : wt ≤ 18446744073709551615) (he : (po = none) ∨ (∃ p, po = some p) ∧ 0 ≤ e) (he0 : e < 0) (hw0 : wt < 1) :
    Calls Try.prog 8 #[.agg #[.int .i64 e, .int .u64 a, .int .u64 wt], .agg c.list.toArray] w (Tr w) := by
  have HF := Lib.hid (Two.new w 24 e a wt c)
  have HCk := Lib.hid (fun w => check_any c w)
  have HAl := Lib.hid alive_any
  have HOk := Lib.hid ok
  have HPa := Lib.hid hp
  have HPn := Lib.hid hn
  have HBn := Lib.hid hb
  have HE := Lib.hid he
  clear ok hp hn hb he
  go_enter Try.func8, Try.ntmps8
  obtain ⟨x0, x1, x2, x10, xc⟩ := HF.out
  clear xc
  go_wp2_with (first | (with_reducible show wpList _ _ _ (_ :: _) _ _; refine wpList_load_cfg (.tmp 3) rfl rfl rfl HF.out.cfg ?_) | fail)
  refine (HCk.out _).mono ?_
  rintro en w0 ⟨⟨r, rfl, hr⟩, hb⟩
  have HF' := Lib.hid (HF.out.next hb)
  clear HF hb x0 x1 x2 x10
  have HF := HF'
  clear HF'
  obtain rfl : r = 0 := hr.2 HOk.out
  clear hr HOk HCk
  obtain ⟨x0, x1, x2, x10, xc⟩ := HF.out
  clear xc
  go_wp2_with (first | (with_reducible show wpList _ _ _ (_ :: _) _ _; refine wpList_load_cfg (.tmp 3) rfl rfl rfl HF.out.cfg ?_) | fail)
  refine (HPa.out _).mono ?_
  rintro en w1 ⟨rfl, hb⟩
  have HF' := Lib.hid (HF.out.next hb)
  clear HF hb x0 x1 x2 x10
  have HF := HF'
  clear HF'
  obtain ⟨x0, x1, x2, x10, xc⟩ := HF.out
  clear xc
  go_wp2_with (first | (with_reducible show wpList _ _ _ (_ :: _) _ _; refine wpList_load_cfg (.tmp 3) rfl rfl rfl HF.out.cfg ?_) | fail)
  refine (HPn.out _ _ (by omega)).mono ?_
  rintro en w2 ⟨rfl, hb⟩
  have HF' := Lib.hid (HF.out.next hb)
  clear HF hb x0 x1 x2 x10
  have HF := HF'
  clear HF'
  simp only [Pl.oV, Pl.oB, Option.getD_none, Option.isSome_none]
  obtain ⟨x0, x1, x2, x10, xc⟩ := HF.out
  clear xc
  go_wp2_with (first | (with_reducible show wpList _ _ _ (_ :: _) _ _; refine wpList_load_cfg (.tmp 3) rfl rfl rfl HF.out.cfg ?_) | fail)
  refine (HBn.out _ _ (by omega) (by omega)).mono ?_
  rintro en w3 ⟨rfl, hb⟩
  have HF' := Lib.hid (HF.out.next hb)
  clear HF hb x0 x1 x2 x10
  have HF := HF'
  clear HF'
  simp only [Pl.oV, Pl.oB, Option.getD_none, Option.isSome_none]
  obtain ⟨x0, x1, x2, x10, xc⟩ := HF.out
  clear xc
  go_wp2_with (first | (with_reducible show wpList _ _ _ (_ :: _) _ _; refine wpList_load_cfg (.tmp 3) rfl rfl rfl HF.out.cfg ?_) | fail)
  refine (HAl.out _).mono ?_
  rintro en w4 ⟨rfl, hb⟩
  have HF' := Lib.hid (HF.out.next hb)
  clear HF hb x0 x1 x2 x10
  have HF := HF'
  clear HF'
  have HB := Lib.hid HF.out.bel
  obtain ⟨x0, x1, x2, x10, xc⟩ := HF.out
  clear xc HF
  rcases HE.out with hpo | ⟨⟨p, hpo⟩, h5⟩
  · subst hpo
    clear HE
    simp only [Pl.oV, Pl.oB, Option.getD_none, Option.isSome_none]
    go_wp2
    go_ret
    exact ⟨rfl, HB.out⟩
  · subst hpo
    clear HE
    exact absurd he0 (by omega)

set_option maxHeartbeats 8000000 in
theorem deadlineLimits_e0w1 {e a wt : Int} {c : Cfg} (po : Option Int) (w : World) (ok : c.Ok)
    (hp : ∀ w, Calls Try.prog 16 #[.int .i64 e, .int .u64 a, .int .u64 wt, .agg c.list.toArray] w (Ans po w))
    (hn : ∀ m w, m < 0 → Calls Try.prog 16 #[.int .i64 m, .int .u64 1, .int .u64 1, .agg c.list.toArray] w (Ans none w))
    (hb : ∀ m w, 1 ≤ m → m ≤ 18446744073709551615 → Calls Try.prog 11 #[.int .u64 18446744073709551615, .int .u64 m, .agg c.list.toArray] w (Ans none w))
    (h0 : -9223372036854775808 ≤ e) (h1 : e ≤ 9223372036854775807) (h2 : 0 ≤ wt) (h3 : wt ≤ 18446744073709551615) (he : (po = none) ∨ (∃ p, po = some p) ∧ 0 ≤ e) (he0 : e < 0) (hw0 : ¬ wt < 1) :
    Calls Try.prog 8 #[.agg #[.int .i64 e, .int .u64 a, .int .u64 wt], .agg c.list.toArray] w (Tr w) := by
  have HF := Lib.hid (Two.new w 24 e a wt c)
  have HCk := Lib.hid (fun w => check_any c w)
  have HAl := Lib.hid alive_any
  have HOk := Lib.hid ok
  have HPa := Lib.hid hp
  have HPn := Lib.hid hn
  have HBn := Lib.hid hb
  have HE := Lib.hid he
  clear ok hp hn hb he
  go_enter Try.func8, Try.ntmps8
  obtain ⟨x0, x1, x2, x10, xc⟩ := HF.out
  clear xc
  go_wp2_with (first | (with_reducible show wpList _ _ _ (_ :: _) _ _; refine wpList_load_cfg (.tmp 3) rfl rfl rfl HF.out.cfg ?_) | fail)
  refine (HCk.out _).mono ?_
  rintro en w0 ⟨⟨r, rfl, hr⟩, hb⟩
  have HF' := Lib.hid (HF.out.next hb)
  clear HF hb x0 x1 x2 x10
  have HF := HF'
  clear HF'
  obtain rfl : r = 0 := hr.2 HOk.out
  clear hr HOk HCk
  obtain ⟨x0, x1, x2, x10, xc⟩ := HF.out
  clear xc
  go_wp2_with (first | (with_reducible show wpList _ _ _ (_ :: _) _ _; refine wpList_load_cfg (.tmp 3) rfl rfl rfl HF.out.cfg ?_) | fail)
  refine (HPa.out _).mono ?_
  rintro en w1 ⟨rfl, hb⟩
  have HF' := Lib.hid (HF.out.next hb)
  clear HF hb x0 x1 x2 x10
  have HF := HF'
  clear HF'
  obtain ⟨x0, x1, x2, x10, xc⟩ := HF.out
  clear xc
  go_wp2_with (first | (with_reducible show wpList _ _ _ (_ :: _) _ _; refine wpList_load_cfg (.tmp 3) rfl rfl rfl HF.out.cfg ?_) | fail)
  refine (HPn.out _ _ (by omega)).mono ?_
  rintro en w2 ⟨rfl, hb⟩
  have HF' := Lib.hid (HF.out.next hb)
  clear HF hb x0 x1 x2 x10
  have HF := HF'
  clear HF'
  simp only [Pl.oV, Pl.oB, Option.getD_none, Option.isSome_none]
  obtain ⟨x0, x1, x2, x10, xc⟩ := HF.out
  clear xc
  go_wp2_with (first | (with_reducible show wpList _ _ _ (_ :: _) _ _; refine wpList_load_cfg (.tmp 3) rfl rfl rfl HF.out.cfg ?_) | fail)
  refine (HBn.out _ _ (by omega) (by omega)).mono ?_
  rintro en w3 ⟨rfl, hb⟩
  have HF' := Lib.hid (HF.out.next hb)
  clear HF hb x0 x1 x2 x10
  have HF := HF'
  clear HF'
  simp only [Pl.oV, Pl.oB, Option.getD_none, Option.isSome_none]
  obtain ⟨x0, x1, x2, x10, xc⟩ := HF.out
  clear xc
  go_wp2_with (first | (with_reducible show wpList _ _ _ (_ :: _) _ _; refine wpList_load_cfg (.tmp 3) rfl rfl rfl HF.out.cfg ?_) | fail)
  refine (HAl.out _).mono ?_
  rintro en w4 ⟨rfl, hb⟩
  have HF' := Lib.hid (HF.out.next hb)
  clear HF hb x0 x1 x2 x10
  have HF := HF'
  clear HF'
  have HB := Lib.hid HF.out.bel
  obtain ⟨x0, x1, x2, x10, xc⟩ := HF.out
  clear xc HF
  rcases HE.out with hpo | ⟨⟨p, hpo⟩, h5⟩
  · subst hpo
    clear HE
    simp only [Pl.oV, Pl.oB, Option.getD_none, Option.isSome_none]
    go_wp2
    go_ret
    exact ⟨rfl, HB.out⟩
  · subst hpo
    clear HE
    exact absurd he0 (by omega)

set_option maxHeartbeats 8000000 in
theorem deadlineLimits_e1w0 {e a wt : Int} {c : Cfg} (po : Option Int) (w : World) (ok : c.Ok)
    (hp : ∀ w, Calls Try.prog 16 #[.int .i64 e, .int .u64 a, .int .u64 wt, .agg c.list.toArray] w (Ans po w))
    (hn : ∀ m w, m < 0 → Calls Try.prog 16 #[.int .i64 m, .int .u64 1, .int .u64 1, .agg c.list.toArray] w (Ans none w))
    (hb : ∀ m w, 1 ≤ m → m ≤ 18446744073709551615 → Calls Try.prog 11 #[.int .u64 18446744073709551615, .int .u64 m, .agg c.list.toArray] w (Ans none w))
    (h0 : -9223372036854775808 ≤ e) (h1 : e ≤ 9223372036854775807) (h2 : 0 ≤ wt) (h3 : wt ≤ 18446744073709551615) (he : (po = none) ∨ (∃ p, po = some p) ∧ 0 ≤ e) (he0 : ¬ e < 0) (hwr : IntKind.i64.wrap (-1 - e) = -1 - e) (hw0 : wt < 1) :
    Calls Try.prog 8 #[.agg #[.int .i64 e, .int .u64 a, .int .u64 wt], .agg c.list.toArray] w (Tr w) := by
  have HF := Lib.hid (Two.new w 24 e a wt c)
  have HCk := Lib.hid (fun w => check_any c w)
  have HAl := Lib.hid alive_any
  have HOk := Lib.hid ok
  have HPa := Lib.hid hp
  have HPn := Lib.hid hn
  have HBn := Lib.hid hb
  have HE := Lib.hid he
  clear ok hp hn hb he
  go_enter Try.func8, Try.ntmps8
  obtain ⟨x0, x1, x2, x10, xc⟩ := HF.out
  clear xc
  go_wp2_with (first | (with_reducible show wpList _ _ _ (_ :: _) _ _; refine wpList_load_cfg (.tmp 3) rfl rfl rfl HF.out.cfg ?_) | fail)
  refine (HCk.out _).mono ?_
  rintro en w0 ⟨⟨r, rfl, hr⟩, hb⟩
  have HF' := Lib.hid (HF.out.next hb)
  clear HF hb x0 x1 x2 x10
  have HF := HF'
  clear HF'
  obtain rfl : r = 0 := hr.2 HOk.out
  clear hr HOk HCk
  obtain ⟨x0, x1, x2, x10, xc⟩ := HF.out
  clear xc
  go_wp2_with (first | (with_reducible show wpList _ _ _ (_ :: _) _ _; refine wpList_load_cfg (.tmp 3) rfl rfl rfl HF.out.cfg ?_) | fail)
  refine (HPa.out _).mono ?_
  rintro en w1 ⟨rfl, hb⟩
  have HF' := Lib.hid (HF.out.next hb)
  clear HF hb x0 x1 x2 x10
  have HF := HF'
  clear HF'
  obtain ⟨x0, x1, x2, x10, xc⟩ := HF.out
  clear xc
  go_wp2_with (first | (with_reducible show wpList _ _ _ (_ :: _) _ _; refine wpList_load_cfg (.tmp 3) rfl rfl rfl HF.out.cfg ?_) | fail)
  refine (HPn.out _ _ (by omega)).mono ?_
  rintro en w2 ⟨rfl, hb⟩
  have HF' := Lib.hid (HF.out.next hb)
  clear HF hb x0 x1 x2 x10
  have HF := HF'
  clear HF'
  simp only [Pl.oV, Pl.oB, Option.getD_none, Option.isSome_none]
  obtain ⟨x0, x1, x2, x10, xc⟩ := HF.out
  clear xc
  go_wp2_with (first | (with_reducible show wpList _ _ _ (_ :: _) _ _; refine wpList_load_cfg (.tmp 3) rfl rfl rfl HF.out.cfg ?_) | fail)
  refine (HBn.out _ _ (by omega) (by omega)).mono ?_
  rintro en w3 ⟨rfl, hb⟩
  have HF' := Lib.hid (HF.out.next hb)
  clear HF hb x0 x1 x2 x10
  have HF := HF'
  clear HF'
  simp only [Pl.oV, Pl.oB, Option.getD_none, Option.isSome_none]
  obtain ⟨x0, x1, x2, x10, xc⟩ := HF.out
  clear xc
  go_wp2_with (first | (with_reducible show wpList _ _ _ (_ :: _) _ _; refine wpList_load_cfg (.tmp 3) rfl rfl rfl HF.out.cfg ?_) | fail)
  refine (HAl.out _).mono ?_
  rintro en w4 ⟨rfl, hb⟩
  have HF' := Lib.hid (HF.out.next hb)
  clear HF hb x0 x1 x2 x10
  have HF := HF'
  clear HF'
  have HB := Lib.hid HF.out.bel
  obtain ⟨x0, x1, x2, x10, xc⟩ := HF.out
  clear xc HF
  rcases HE.out with hpo | ⟨⟨p, hpo⟩, h5⟩
  · subst hpo
    clear HE
    simp only [Pl.oV, Pl.oB, Option.getD_none, Option.isSome_none]
    go_wp2
    go_ret
    exact ⟨rfl, HB.out⟩
  · subst hpo
    clear HE
    simp only [Pl.oV, Pl.oB, Option.getD_some, Option.isSome_some]
    go_wp2
    go_ret
    exact ⟨rfl, HB.out⟩

set_option maxHeartbeats 8000000 in
theorem deadlineLimits_e1w1 {e a wt : Int} {c : Cfg} (po : Option Int) (w : World) (ok : c.Ok)
    (hp : ∀ w, Calls Try.prog 16 #[.int .i64 e, .int .u64 a, .int .u64 wt, .agg c.list.toArray] w (Ans po w))
    (hn : ∀ m w, m < 0 → Calls Try.prog 16 #[.int .i64 m, .int .u64 1, .int .u64 1, .agg c.list.toArray] w (Ans none w))
    (hb : ∀ m w, 1 ≤ m → m ≤ 18446744073709551615 → Calls Try.prog 11 #[.int .u64 18446744073709551615, .int .u64 m, .agg c.list.toArray] w (Ans none w))
    (h0 : -9223372036854775808 ≤ e) (h1 : e ≤ 9223372036854775807) (h2 : 0 ≤ wt) (h3 : wt ≤ 18446744073709551615) (he : (po = none) ∨ (∃ p, po = some p) ∧ 0 ≤ e) (he0 : ¬ e < 0) (hwr : IntKind.i64.wrap (-1 - e) = -1 - e) (hw0 : ¬ wt < 1) :
    Calls Try.prog 8 #[.agg #[.int .i64 e, .int .u64 a, .int .u64 wt], .agg c.list.toArray] w (Tr w) := by
  have HF := Lib.hid (Two.new w 24 e a wt c)
  have HCk := Lib.hid (fun w => check_any c w)
  have HAl := Lib.hid alive_any
  have HOk := Lib.hid ok
  have HPa := Lib.hid hp
  have HPn := Lib.hid hn
  have HBn := Lib.hid hb
  have HE := Lib.hid he
  clear ok hp hn hb he
  go_enter Try.func8, Try.ntmps8
  obtain ⟨x0, x1, x2, x10, xc⟩ := HF.out
  clear xc
  go_wp2_with (first | (with_reducible show wpList _ _ _ (_ :: _) _ _; refine wpList_load_cfg (.tmp 3) rfl rfl rfl HF.out.cfg ?_) | fail)
  refine (HCk.out _).mono ?_
  rintro en w0 ⟨⟨r, rfl, hr⟩, hb⟩
  have HF' := Lib.hid (HF.out.next hb)
  clear HF hb x0 x1 x2 x10
  have HF := HF'
  clear HF'
  obtain rfl : r = 0 := hr.2 HOk.out
  clear hr HOk HCk
  obtain ⟨x0, x1, x2, x10, xc⟩ := HF.out
  clear xc
  go_wp2_with (first | (with_reducible show wpList _ _ _ (_ :: _) _ _; refine wpList_load_cfg (.tmp 3) rfl rfl rfl HF.out.cfg ?_) | fail)
  refine (HPa.out _).mono ?_
  rintro en w1 ⟨rfl, hb⟩
  have HF' := Lib.hid (HF.out.next hb)
  clear HF hb x0 x1 x2 x10
  have HF := HF'
  clear HF'
  obtain ⟨x0, x1, x2, x10, xc⟩ := HF.out
  clear xc
  go_wp2_with (first | (with_reducible show wpList _ _ _ (_ :: _) _ _; refine wpList_load_cfg (.tmp 3) rfl rfl rfl HF.out.cfg ?_) | fail)
  refine (HPn.out _ _ (by omega)).mono ?_
  rintro en w2 ⟨rfl, hb⟩
  have HF' := Lib.hid (HF.out.next hb)
  clear HF hb x0 x1 x2 x10
  have HF := HF'
  clear HF'
  simp only [Pl.oV, Pl.oB, Option.getD_none, Option.isSome_none]
  obtain ⟨x0, x1, x2, x10, xc⟩ := HF.out
  clear xc
  go_wp2_with (first | (with_reducible show wpList _ _ _ (_ :: _) _ _; refine wpList_load_cfg (.tmp 3) rfl rfl rfl HF.out.cfg ?_) | fail)
  refine (HBn.out _ _ (by omega) (by omega)).mono ?_
  rintro en w3 ⟨rfl, hb⟩
  have HF' := Lib.hid (HF.out.next hb)
  clear HF hb x0 x1 x2 x10
  have HF := HF'
  clear HF'
  simp only [Pl.oV, Pl.oB, Option.getD_none, Option.isSome_none]
  obtain ⟨x0, x1, x2, x10, xc⟩ := HF.out
  clear xc
  go_wp2_with (first | (with_reducible show wpList _ _ _ (_ :: _) _ _; refine wpList_load_cfg (.tmp 3) rfl rfl rfl HF.out.cfg ?_) | fail)
  refine (HAl.out _).mono ?_
  rintro en w4 ⟨rfl, hb⟩
  have HF' := Lib.hid (HF.out.next hb)
  clear HF hb x0 x1 x2 x10
  have HF := HF'
  clear HF'
  have HB := Lib.hid HF.out.bel
  obtain ⟨x0, x1, x2, x10, xc⟩ := HF.out
  clear xc HF
  rcases HE.out with hpo | ⟨⟨p, hpo⟩, h5⟩
  · subst hpo
    clear HE
    simp only [Pl.oV, Pl.oB, Option.getD_none, Option.isSome_none]
    go_wp2
    go_ret
    exact ⟨rfl, HB.out⟩
  · subst hpo
    clear HE
    simp only [Pl.oV, Pl.oB, Option.getD_some, Option.isSome_some]
    go_wp2
    go_ret
    exact ⟨rfl, HB.out⟩

theorem deadlineLimits_walk (e a wt : Int) (we : (Lit.int .i64 e).wf = true) (c : Cfg) (w : World) (wa : (Lit.int .u64 a).wf = true) (ww : (Lit.int .u64 wt).wf = true) (wf : (Lit.int .u64 c.forced).wf = true) :
    Calls Try.prog 8 #[.agg #[.int .i64 e, .int .u64 a, .int .u64 wt], .agg c.list.toArray] w fun en w' => en = .returned (.bool true) ∧ Below w.heap.size w w' := by
  obtain ⟨h0, h1⟩ := bounds_i64 we
  obtain ⟨h2, h3⟩ := bounds_u64 ww
  obtain ⟨f0, f1⟩ := bounds_u64 wf
  by_cases ok : c.Ok
  · have g := good_of wa ww wf ok
    have h8 := ok.h8
    have h10 := ok.h10
    have A1 : ∀ m w, m < 0 → Calls Try.prog 16 #[.int .i64 m, .int .u64 1, .int .u64 1, .agg c.list.toArray] w (Ans none w) := by
      intro m w hm
      have := pay_any (e := m) (a := 1) (wt := 1) (c := c) ⟨by decide, by decide, by decide, by decide, f0, ok⟩ w
      rwa [Pl.bound_neg _ _ _ hm] at this
    have A2 : ∀ m w, 1 ≤ m → m ≤ 18446744073709551615 → Calls Try.prog 11 #[.int .u64 18446744073709551615, .int .u64 m, .agg c.list.toArray] w (Ans none w) := by
      intro m w hm hM
      have := boundaries_any 18446744073709551615 m c w (by decide) (by decide) (by omega) hM f0 f1 (by omega) (by omega)
      rwa [Pl.bnd_over _ _ _ _ (by omega)] at this
    have A3 : Pl.bound e (Pl.bnd a wt c.forced c.minChurn) [c.unb, Pl.swp c.capacity c.visits c.pays c.parts c.epl] = none ∨ (∃ p, Pl.bound e (Pl.bnd a wt c.forced c.minChurn) [c.unb, Pl.swp c.capacity c.visits c.pays c.parts c.epl] = some p) ∧ 0 ≤ e := by
      by_cases h5 : e < 0
      · exact .inl (Pl.bound_neg _ _ _ h5)
      · cases hp : Pl.bound e (Pl.bnd a wt c.forced c.minChurn) [c.unb, Pl.swp c.capacity c.visits c.pays c.parts c.epl] with
        | none => exact .inl rfl
        | some p => exact .inr ⟨⟨p, rfl⟩, by omega⟩
    by_cases he0 : e < 0
    · by_cases hw0 : wt < 1
      · exact deadlineLimits_e0w0 _ w ok (fun w => pay_any (e := e) g w) A1 A2 h0 h1 h2 h3 A3 he0 hw0
      · exact deadlineLimits_e0w1 _ w ok (fun w => pay_any (e := e) g w) A1 A2 h0 h1 h2 h3 A3 he0 hw0
    · by_cases hw0 : wt < 1
      · exact deadlineLimits_e1w0 _ w ok (fun w => pay_any (e := e) g w) A1 A2 h0 h1 h2 h3 A3 he0 (IntWalk.i64_in _ (by omega)) hw0
      · exact deadlineLimits_e1w1 _ w ok (fun w => pay_any (e := e) g w) A1 A2 h0 h1 h2 h3 A3 he0 (IntWalk.i64_in _ (by omega)) hw0
  · exact deadlineLimits_bad e a wt c w ok

end Go.Proofs.Ytmihnoiofbfbhaa
