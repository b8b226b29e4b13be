/- Chapter 18: alive: the examples' configuration answers. -/
import Derived.Test.YtmihnoiofbfbhaaDlI
import Derived.Test.YtmihnoiofbfbhaaDflt
namespace Go.Proofs.Ytmihnoiofbfbhaa
open Go.RowKit
set_option linter.unusedSimpArgs false

theorem dflt_good : Good 64 32 dflt := ⟨by decide, by decide, by decide, by decide, by decide, dflt_ok⟩
theorem dflt_bnd : Pl.bnd 64 32 dflt.forced dflt.minChurn = some 5 := by decide
theorem dflt_exit : Pl.bound 5 (some 5) [] = some 11 := by decide
theorem dflt_with : Pl.bound 5 (some 5) [dflt.unb] = some 13 := by decide
theorem dflt_swp : Pl.swp dflt.capacity dflt.visits dflt.pays dflt.parts dflt.epl = 1 := by decide
theorem dflt_pay : Pl.bound 5 (some 5) [dflt.unb, 1] = some 14 := by decide

/-- The whole configuration is read, the operation being wanted. -/
theorem wpList_load_cfg_w {ops : Array Oper} {rest : List Oper} {o : Oper} {a : Act} {w : World} {Q : Exit → Act → World → Prop} {b : Nat} {c : Cfg} (x : Operand) (hgd : Region.wanted o (yielded ops a.tmps) = true) (ho : o.op = .load 26 x)
    (hx : a.eval x = .pointer (some ⟨b, 0, none⟩)) (hc : CfgAt w b c) (h : wpList Try.prog ops Q rest (a.put o.dst (.agg c.list.toArray)) w) : wpList Try.prog ops Q (o :: rest) a w :=
  wpList_step fun K hK => by
    rw [if_pos hgd]
    exact wp_load_row 26 x ho b hx 26 c.list.toArray (0, 0) _ hc Try.underlying26 rfl (by kernel_rfl) (hK _ _ h)

set_option maxHeartbeats 1000000 in
theorem alive_aux (c : Cfg) (w : World) (HS : Hid (c.list.toArray.size = 20 ∧ c.list.toArray.all (·.oneCell') = true ∧ (Try.prog.info? 26).map (·.size) = some c.list.toArray.size))
    (HD : Hid (∀ w, Calls Try.prog 24 #[] w fun e w' => e = .returned (.agg c.list.toArray) ∧ Below w.heap.size w w'))
    (HBn : Hid (∀ w, Calls Try.prog 11 #[.int .u64 64, .int .u64 32, .agg c.list.toArray] w (Ans (some 5) w)))
    (HEx : Hid (∀ w, Calls Try.prog 13 #[.int .i64 5, .int .u64 64, .int .u64 32, .agg c.list.toArray] w (Ans (some 11) w)))
    (HWi : Hid (∀ w, Calls Try.prog 15 #[.int .i64 5, .int .u64 64, .int .u64 32, .agg c.list.toArray] w (Ans (some 13) w)))
    (HPa : Hid (∀ w, Calls Try.prog 16 #[.int .i64 5, .int .u64 64, .int .u64 32, .agg c.list.toArray] w (Ans (some 14) w)))
    (HSw : Hid (∀ w, Calls Try.prog 18 #[.agg c.list.toArray] w fun e w' => e = .returned (.int .i64 1) ∧ Below w.heap.size w w')) :
    Calls Try.prog 10 #[] w fun e w' => e = .returned (.bool true) ∧ Below w.heap.size w w' := by
  go_enter Try.func10, Try.ntmps10
  go_wp2_with fail
  refine (HD.out _).mono ?_
  rintro en w1 ⟨rfl, hb1⟩
  have HB1 := Lib.hid hb1
  clear hb1
  go_wp2_with (first | (with_reducible show wpList _ _ _ [_] _ (World.alloc _ _); refine stopped ?_) | fail)
  unfold Stopped
  refine wpList_store_new 26 (.tmp 1) (.tmp 10) _ c.list.toArray rfl rfl rfl rfl HS.out.2.2 (by rw [HS.out.1]; rfl) HS.out.2.1 ?_
  have hn := CfgAt.new w1 c
  obtain ⟨w2, hw2⟩ : ∃ w2, w2 = w1.alloc (.cells c.list.toArray 26) := ⟨_, rfl⟩
  rw [← hw2] at hn ⊢
  have HN2 := Lib.hid hn
  have HB2 : Hid (Below w.heap.size w w2) := by rw [hw2]; exact HB1.out.alloc HB1.out.size _
  clear hn hw2 HB1
  generalize w1.heap.size = b at *
  go_wp2_with (first | (with_reducible show wpList _ _ _ (_ :: _) _ _; refine wpList_load_cfg (.tmp 1) rfl rfl rfl HN2.out ?_) | fail)
  refine (HBn.out _).mono ?_
  rintro en w3 ⟨rfl, hb3⟩
  have HN3 := Lib.hid (HN2.out.below hb3)
  have HB3 := Lib.hid (HB2.out.trans (hb3.mono HB2.out.size))
  clear hb3 HN2 HB2
  simp only [Pl.oV, Pl.oB, Option.getD_some, Option.isSome_some]
  go_wp2_with (first | (with_reducible show wpList _ _ _ (_ :: _) _ _; refine wpList_load_cfg (.tmp 1) rfl rfl rfl HN3.out ?_) | fail)
  refine (HEx.out _).mono ?_
  rintro en w4 ⟨rfl, hb4⟩
  have HN4 := Lib.hid (HN3.out.below hb4)
  have HB4 := Lib.hid (HB3.out.trans (hb4.mono HB3.out.size))
  clear hb4 HN3 HB3
  simp only [Pl.oV, Pl.oB, Option.getD_some, Option.isSome_some]
  go_wp2_with (first | (with_reducible show wpList _ _ _ (_ :: _) _ _; refine wpList_load_cfg (.tmp 1) rfl rfl rfl HN4.out ?_) | fail)
  refine (HWi.out _).mono ?_
  rintro en w5 ⟨rfl, hb5⟩
  have HN5 := Lib.hid (HN4.out.below hb5)
  have HB5 := Lib.hid (HB4.out.trans (hb5.mono HB4.out.size))
  clear hb5 HN4 HB4
  simp only [Pl.oV, Pl.oB, Option.getD_some, Option.isSome_some]
  go_wp2_with (first | (with_reducible show wpList _ _ _ (_ :: _) _ _; refine wpList_load_cfg (.tmp 1) rfl rfl rfl HN5.out ?_) | fail)
  refine (HPa.out _).mono ?_
  rintro en w6 ⟨rfl, hb6⟩
  have HN6 := Lib.hid (HN5.out.below hb6)
  have HB6 := Lib.hid (HB5.out.trans (hb6.mono HB5.out.size))
  clear hb6 HN5 HB5
  simp only [Pl.oV, Pl.oB, Option.getD_some, Option.isSome_some]
  go_wp2_with (first | (with_reducible show wpList _ _ _ (_ :: _) _ _; refine wpList_load_cfg_w (.tmp 1) rfl rfl rfl HN6.out ?_) | fail)
  refine (HSw.out _).mono ?_
  rintro en w7 ⟨rfl, hb7⟩
  have HB7 := Lib.hid (HB6.out.trans (hb7.mono HB6.out.size))
  clear hb7 HN6 HB6
  go_wp2
  go_ret
  exact ⟨rfl, HB7.out⟩

theorem alive_any (w : World) : Calls Try.prog 10 #[] w fun e w' => e = .returned (.bool true) ∧ Below w.heap.size w w' := by
  have h8 := dflt_ok.h8
  have h10 := dflt_ok.h10
  refine alive_aux dflt w ⟨rfl, by simp only [List.all_toArray]; exact List.all_eq_true.2 dflt_one, dflt_size⟩ (fun w => default_any w) (fun w => ?_) (fun w => ?_) (fun w => ?_) (fun w => ?_) (fun w => ?_)
  · have := boundaries_any 64 32 dflt w (by decide) (by decide) (by decide) (by decide) (by decide) (by decide) (by decide) (by decide)
    rwa [dflt_bnd] at this
  · have := exit_any (e := 5) dflt_good w
    rwa [dflt_bnd, dflt_exit] at this
  · have := withdraw_any (e := 5) dflt_good w
    rwa [dflt_bnd, dflt_with] at this
  · have := pay_any (e := 5) dflt_good w
    rwa [dflt_bnd, dflt_swp, dflt_pay] at this
  · have := sweep_good dflt_ok w
    rwa [dflt_swp] at this

end Go.Proofs.Ytmihnoiofbfbhaa
