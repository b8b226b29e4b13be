/- Chapter 18: Ceil, Epochs, Add, Later: the program's and the reference's. -/
import Derived.Test.YtmihnoiofbfbhaaGw
import Derived.Test.YtmihnoiofbfbhaaDlP
import Derived.Test.YtmihnoiofbfbhaaApp
import Derived.Deep.RegionHeld3
namespace Go.Proofs.Ytmihnoiofbfbhaa
open Go.RowKit

/-- Two results, a number and whether it is there. -/
def Ans (o : Option Int) (w : World) (e : Ending) (w' : World) : Prop := e = .returned (.tuple #[.int .i64 (Pl.oV o), .bool (Pl.oB o)]) ∧ Below w.heap.size w w'

set_option maxHeartbeats 400000 in
theorem ceil_any (a d : Int) (w : World) (h0 : 0 ≤ a) (h1 : a ≤ 18446744073709551615) (hd : 1 ≤ d) (hd1 : d ≤ 18446744073709551615) :
    Calls Try.prog 42 #[.int .u64 a, .int .u64 d] w fun e w' => e = .returned (.tuple #[.int .u64 (Pl.cd a d), .bool true]) ∧ w = w' := by
  by_cases ha : a = 0
  · subst ha
    have HZ := Lib.hid (Pl.cd_zero d hd)
    go_enter Try.func42, Try.ntmps42
    go_wp2
    go_ret2
    exact ⟨ret2 (int_eq HZ.out.symm) rfl, rfl⟩
  · have HS := Lib.hid (Pl.cd_succ a d hd)
    have ha1 : 1 ≤ a := by omega
    have hq0 := Int.ediv_nonneg (a := a - 1) (b := d) (by omega) (by omega)
    have hq1 := Int.ediv_le_self (b := d) (a := a - 1) (by omega)
    go_enter Try.func42, Try.ntmps42
    go_wp2
    go_ret2
    exact ⟨ret2 (int_eq HS.out) rfl, rfl⟩

set_option maxHeartbeats 400000 in
theorem refceil_any (a d : Int) (w : World) (h0 : 0 ≤ a) (h1 : a ≤ 18446744073709551615) (hd : 1 ≤ d) (hd1 : d ≤ 18446744073709551615) :
    Calls Try.prog 44 #[.int .u64 a, .int .u64 d] w fun e w' => e = .returned (.tuple #[.int .u64 (Pl.cd a d), .bool true]) ∧ w = w' := by
  have hq0 := Int.ediv_nonneg (a := a) (b := d) (by omega) (by omega)
  have hq1 := Int.ediv_le_self (b := d) (a := a) (by omega)
  have hr0 := Int.emod_nonneg a (show d ≠ 0 by omega)
  have hr1 := Int.emod_lt_of_pos a (show 0 < d by omega)
  by_cases hr : 0 < a % d
  · have HS := Lib.hid (Pl.cd_more a d hd hr)
    have hq2 : a / d < a := by
      have h2 := Int.mul_ediv_add_emod a d
      have h3 : a / d ≤ d * (a / d) := by
        have := Int.mul_le_mul_of_nonneg_right hd hq0
        omega
      omega
    go_enter Try.func44, Try.ntmps44
    go_wp2
    go_ret2
    exact ⟨ret2 (int_eq HS.out) rfl, rfl⟩
  · have HS := Lib.hid (Pl.cd_even a d hd (by omega))
    have hr2 : a % d ≤ 0 := by omega
    clear hr
    go_enter Try.func44, Try.ntmps44
    go_wp2
    go_ret2
    exact ⟨ret2 (int_eq HS.out) rfl, rfl⟩

set_option maxHeartbeats 400000 in
theorem epochs_any (a d : Int) (w : World) (h0 : 0 ≤ a) (h1 : a ≤ 18446744073709551615) (hd : 1 ≤ d) (hd1 : d ≤ 18446744073709551615) :
    Calls Try.prog 26 #[.int .u64 a, .int .u64 d] w fun e w' => e = .returned (.tuple #[.int .i64 (Pl.oV (Pl.epo a d)), .bool (Pl.oB (Pl.epo a d))]) ∧ w = w' := by
  have HC := Lib.hid (ceil_any a d w h0 h1 hd hd1)
  have hc0 := Pl.cd_nonneg a d hd h0
  have HE : Hid (Pl.epo a d = if Pl.cd a d ≤ 1099511627776 then some (Pl.cd a d) else none) := rfl
  generalize Pl.cd a d = q at *
  generalize Pl.epo a d = o at *
  by_cases hq : q ≤ 1099511627776
  · have HE2 : Hid (o = some q) := by rw [Hid, HE.out, if_pos hq]
    go_enter Try.func26, Try.ntmps26
    go_wp2_with fail
    refine HC.out.mono ?_
    rintro e w' ⟨rfl, rfl⟩
    go_wp2
    go_ret2
    exact ⟨by rw [HE2.out]; rfl, rfl⟩
  · have HE2 : Hid (o = none) := by rw [Hid, HE.out, if_neg hq]
    have hq' : 1099511627776 < q := by omega
    clear hq
    go_enter Try.func26, Try.ntmps26
    go_wp2_with fail
    refine HC.out.mono ?_
    rintro e w' ⟨rfl, rfl⟩
    go_wp2
    go_ret2
    exact ⟨by rw [HE2.out]; rfl, rfl⟩

set_option maxHeartbeats 400000 in
theorem refepochs_any (a d : Int) (w : World) (h0 : 0 ≤ a) (h1 : a ≤ 18446744073709551615) (hd : 1 ≤ d) (hd1 : d ≤ 18446744073709551615) :
    Calls Try.prog 28 #[.int .u64 a, .int .u64 d] w fun e w' => e = .returned (.tuple #[.int .i64 (Pl.oV (Pl.epo a d)), .bool (Pl.oB (Pl.epo a d))]) ∧ w = w' := by
  have HC := Lib.hid (refceil_any a d w h0 h1 hd hd1)
  have hc0 := Pl.cd_nonneg a d hd h0
  have HE : Hid (Pl.epo a d = if Pl.cd a d ≤ 1099511627776 then some (Pl.cd a d) else none) := rfl
  generalize Pl.cd a d = q at *
  generalize Pl.epo a d = o at *
  by_cases hq : q ≤ 1099511627776
  · have HE2 : Hid (o = some q) := by rw [Hid, HE.out, if_pos hq]
    go_enter Try.func28, Try.ntmps28
    go_wp2_with fail
    refine HC.out.mono ?_
    rintro e w' ⟨rfl, rfl⟩
    go_wp2
    go_ret2
    exact ⟨by rw [HE2.out]; rfl, rfl⟩
  · have HE2 : Hid (o = none) := by rw [Hid, HE.out, if_neg hq]
    have hq' : 1099511627776 < q := by omega
    clear hq
    go_enter Try.func28, Try.ntmps28
    go_wp2_with fail
    refine HC.out.mono ?_
    rintro e w' ⟨rfl, rfl⟩
    go_wp2
    go_ret2
    exact ⟨by rw [HE2.out]; rfl, rfl⟩

end Go.Proofs.Ytmihnoiofbfbhaa
