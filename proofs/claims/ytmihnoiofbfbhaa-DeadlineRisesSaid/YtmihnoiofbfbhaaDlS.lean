/- Chapter 18: the walk of DeadlineRises. -/
import Derived.Test.YtmihnoiofbfbhaaDlR
namespace Go.Proofs.Ytmihnoiofbfbhaa
open Go.RowKit
set_option linter.unusedSimpArgs false
set_option maxRecDepth 20000

set_option maxHeartbeats 8000000 in
theorem rises_bad1 (e a wt m0 m1 m2 m3 : Int) (c : Cfg) (w : World) (nok : ¬ c.Ok) : Calls Try.prog 4 #[.agg #[.int .i64 e, .int .u64 a, .int .u64 wt], .agg #[.int .u32 m0, .int .u32 m1, .int .u32 m2, .int .u32 m3], .agg c.list.toArray] w (Tr w) := by
  have HF := Lib.hid (Rs.new w e a wt m0 m1 m2 m3 c)
  have HCk := Lib.hid (fun w => check_any c w)
  have HAl := Lib.hid alive_any
  have HNk := Lib.hid nok
  clear nok
  go_enter Try.func4, Try.ntmps4
  have x0 := HF.out.x0
  have x1 := HF.out.x1
  have x2 := HF.out.x2
  go_wp2_with (first | (with_reducible show wpList _ _ _ (_ :: _) _ _; refine wpList_load_cfg (.tmp 5) rfl rfl rfl HF.out.hc ?_) | fail)
  clear x0 x1 x2
  refine (HCk.out _).mono ?_
  rintro en w0 ⟨⟨r, rfl, hr⟩, hb⟩
  have HF' := Lib.hid (HF.out.next hb)
  clear HF hb
  have HF := HF'
  clear HF'
  have hr0 : ¬ r = 0 := fun h => HNk.out (hr.1 h)
  clear hr
  have x0 := HF.out.x0
  have x1 := HF.out.x1
  have x2 := HF.out.x2
  go_wp2_with fail
  clear x0 x1 x2
  refine (HAl.out _).mono ?_
  rintro en w1 ⟨rfl, hb⟩
  have HB := Lib.hid ((HF.out.next hb).hb)
  clear hb HF
  go_wp2
  go_ret
  exact ⟨rfl, HB.out⟩

set_option maxHeartbeats 8000000 in
theorem rises_bad2 (e a wt m0 m1 m2 m3 : Int) (c : Cfg) (w : World) (ok : c.Ok) (h1 : 2305843009213693952 < a) : Calls Try.prog 4 #[.agg #[.int .i64 e, .int .u64 a, .int .u64 wt], .agg #[.int .u32 m0, .int .u32 m1, .int .u32 m2, .int .u32 m3], .agg c.list.toArray] w (Tr w) := by
  have HF := Lib.hid (Rs.new w e a wt m0 m1 m2 m3 c)
  have HCk := Lib.hid (fun w => check_any c w)
  have HAl := Lib.hid alive_any
  have HOk := Lib.hid ok
  clear ok
  go_enter Try.func4, Try.ntmps4
  have x0 := HF.out.x0
  have x1 := HF.out.x1
  have x2 := HF.out.x2
  go_wp2_with (first | (with_reducible show wpList _ _ _ (_ :: _) _ _; refine wpList_load_cfg (.tmp 5) rfl rfl rfl HF.out.hc ?_) | fail)
  clear x0 x1 x2
  refine (HCk.out _).mono ?_
  rintro en w0 ⟨⟨r, rfl, hr⟩, hb⟩
  have HF' := Lib.hid (HF.out.next hb)
  clear HF hb
  have HF := HF'
  clear HF'
  obtain rfl : r = 0 := hr.2 HOk.out
  clear hr
  have x0 := HF.out.x0
  have x1 := HF.out.x1
  have x2 := HF.out.x2
  go_wp2_with fail
  clear x0 x1 x2
  refine (HAl.out _).mono ?_
  rintro en w1 ⟨rfl, hb⟩
  have HB := Lib.hid ((HF.out.next hb).hb)
  clear hb HF
  go_wp2
  go_ret
  exact ⟨rfl, HB.out⟩

set_option maxHeartbeats 8000000 in
theorem rises_bad3 (e a wt m0 m1 m2 m3 : Int) (c : Cfg) (w : World) (ok : c.Ok) (h1 : ¬ 2305843009213693952 < a) (h2 : 2305843009213693952 < wt) : Calls Try.prog 4 #[.agg #[.int .i64 e, .int .u64 a, .int .u64 wt], .agg #[.int .u32 m0, .int .u32 m1, .int .u32 m2, .int .u32 m3], .agg c.list.toArray] w (Tr w) := by
  have HF := Lib.hid (Rs.new w e a wt m0 m1 m2 m3 c)
  have HCk := Lib.hid (fun w => check_any c w)
  have HAl := Lib.hid alive_any
  have HOk := Lib.hid ok
  clear ok
  go_enter Try.func4, Try.ntmps4
  have x0 := HF.out.x0
  have x1 := HF.out.x1
  have x2 := HF.out.x2
  go_wp2_with (first | (with_reducible show wpList _ _ _ (_ :: _) _ _; refine wpList_load_cfg (.tmp 5) rfl rfl rfl HF.out.hc ?_) | fail)
  clear x0 x1 x2
  refine (HCk.out _).mono ?_
  rintro en w0 ⟨⟨r, rfl, hr⟩, hb⟩
  have HF' := Lib.hid (HF.out.next hb)
  clear HF hb
  have HF := HF'
  clear HF'
  obtain rfl : r = 0 := hr.2 HOk.out
  clear hr
  have x0 := HF.out.x0
  have x1 := HF.out.x1
  have x2 := HF.out.x2
  go_wp2_with fail
  clear x0 x1 x2
  refine (HAl.out _).mono ?_
  rintro en w1 ⟨rfl, hb⟩
  have HB := Lib.hid ((HF.out.next hb).hb)
  clear hb HF
  go_wp2
  go_ret
  exact ⟨rfl, HB.out⟩


end Go.Proofs.Ytmihnoiofbfbhaa
