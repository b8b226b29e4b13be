/- egressref03.right: one contract a field. -/
import Derived.Test.YtbafgipegekbcaaRows
import Derived.Test.YtbafgipegekbcaaCfg
namespace Go.Proofs.Ytbafgipegekbcaa
open Go.RowKit

set_option maxHeartbeats 400000 in
theorem between_yes (n lo hi : Int) (w : World) (h1 : lo ≤ n) (h2 : n ≤ hi) :
    Calls Try.prog 22 #[.int .i64 n, .int .i64 lo, .int .i64 hi] w fun e w' => e = .returned (.bool true) ∧ w = w' := by
  go_enter Try.func22, Try.ntmps22
  go_wp2
  go_ret
  exact ⟨rfl, rfl⟩

set_option maxHeartbeats 400000 in
theorem between_no (n lo hi : Int) (w : World) (h : n < lo ∨ hi < n) :
    Calls Try.prog 22 #[.int .i64 n, .int .i64 lo, .int .i64 hi] w fun e w' => e = .returned (.bool false) ∧ w = w' := by
  by_cases h1 : n < lo
  · clear h
    go_enter Try.func22, Try.ntmps22
    go_wp2
    go_ret
    exact ⟨rfl, rfl⟩
  · have h2 : hi < n := by omega
    have h3 : lo ≤ n := by omega
    clear h h1
    go_enter Try.func22, Try.ntmps22
    go_wp2
    go_ret
    exact ⟨ret1 (bool_eq (by simp; omega)), rfl⟩


set_option maxHeartbeats 1000000 in
set_option maxRecDepth 100000 in
theorem right_1 (c : Cfg) (w : World) (b : Bool) (hb : (b = true) = (1 ≤ c.capacity ∧ c.capacity ≤ 4096)) :
    Calls Try.prog 13 #[.agg c.list.toArray, .int .i64 1] w fun e w' => e = .returned (.bool b) ∧ Below w.heap.size w w' := by
  have hn := CfgAt.new w c
  have e0 := hn.c0
  have hB := Lib.hid ((Below.refl w.heap.size w).alloc (Nat.le_refl _) (.cells c.list.toArray 26))
  clear hn
  generalize c.list = cl at *
  generalize c.capacity = x0 at *
  by_cases h : 1 ≤ x0 ∧ x0 ≤ 4096
  · have hb' : b = true := by rw [hb]; exact h
    subst hb'
    have h1 := h.1
    have h2 := h.2
    clear h hb
    go_enter Try.func13, Try.ntmps13
    go_wp2_with (go_at_call 22; refine (between_yes _ _ _ _ (by omega) (by omega)).mono ?_; rintro e w' ⟨rfl, rfl⟩)
    go_ret
    exact ⟨ret1 (bool_eq (by first | rfl | (simp; omega))), hB.out⟩
  · have hb' : b = false := by cases b with | false => rfl | true => exact absurd (hb.mp rfl) h
    subst hb'
    have h1 : x0 < 1 ∨ 4096 < x0 := by omega
    clear h hb
    go_enter Try.func13, Try.ntmps13
    go_wp2_with (go_at_call 22; refine (between_no _ _ _ _ h1).mono ?_; rintro e w' ⟨rfl, rfl⟩)
    go_ret
    exact ⟨ret1 (bool_eq (by first | rfl | (simp; omega))), hB.out⟩

set_option maxHeartbeats 1000000 in
set_option maxRecDepth 100000 in
theorem right_2 (c : Cfg) (w : World) (b : Bool) (hb : (b = true) = (1 ≤ c.queue ∧ c.queue ≤ 4096)) :
    Calls Try.prog 13 #[.agg c.list.toArray, .int .i64 2] w fun e w' => e = .returned (.bool b) ∧ Below w.heap.size w w' := by
  have hn := CfgAt.new w c
  have e1 := hn.c1
  have hB := Lib.hid ((Below.refl w.heap.size w).alloc (Nat.le_refl _) (.cells c.list.toArray 26))
  clear hn
  generalize c.list = cl at *
  generalize c.queue = x1 at *
  by_cases h : 1 ≤ x1 ∧ x1 ≤ 4096
  · have hb' : b = true := by rw [hb]; exact h
    subst hb'
    have h1 := h.1
    have h2 := h.2
    clear h hb
    go_enter Try.func13, Try.ntmps13
    go_wp2_with (go_at_call 22; refine (between_yes _ _ _ _ (by omega) (by omega)).mono ?_; rintro e w' ⟨rfl, rfl⟩)
    go_ret
    exact ⟨ret1 (bool_eq (by first | rfl | (simp; omega))), hB.out⟩
  · have hb' : b = false := by cases b with | false => rfl | true => exact absurd (hb.mp rfl) h
    subst hb'
    have h1 : x1 < 1 ∨ 4096 < x1 := by omega
    clear h hb
    go_enter Try.func13, Try.ntmps13
    go_wp2_with (go_at_call 22; refine (between_no _ _ _ _ h1).mono ?_; rintro e w' ⟨rfl, rfl⟩)
    go_ret
    exact ⟨ret1 (bool_eq (by first | rfl | (simp; omega))), hB.out⟩

set_option maxHeartbeats 1000000 in
set_option maxRecDepth 100000 in
theorem right_3 (c : Cfg) (w : World) (b : Bool) (hb : (b = true) = (1 ≤ c.minDep)) :
    Calls Try.prog 13 #[.agg c.list.toArray, .int .i64 3] w fun e w' => e = .returned (.bool b) ∧ Below w.heap.size w w' := by
  have hn := CfgAt.new w c
  have e2 := hn.c2
  have hB := Lib.hid ((Below.refl w.heap.size w).alloc (Nat.le_refl _) (.cells c.list.toArray 26))
  clear hn
  generalize c.list = cl at *
  generalize c.minDep = x2 at *
  by_cases h0 : 1 ≤ x2
  case neg =>
    have hb' : b = false := by cases b with | false => rfl | true => exact absurd (hb.mp rfl) (by omega)
    subst hb'
    clear hb
    have h0' : x2 < 1 := by omega
    clear h0
    go_enter Try.func13, Try.ntmps13
    go_wp2
    go_ret
    exact ⟨ret1 (bool_eq (by first | rfl | (simp; omega))), hB.out⟩
  have hb' : b = true := by rw [hb]; exact h0
  subst hb'
  clear hb
  go_enter Try.func13, Try.ntmps13
  go_wp2
  go_ret
  exact ⟨ret1 (bool_eq (by first | rfl | (simp; omega))), hB.out⟩

set_option maxHeartbeats 1000000 in
set_option maxRecDepth 100000 in
theorem right_4 (c : Cfg) (w : World) (b : Bool) (hb : (b = true) = (c.minDep ≤ c.maxDep)) :
    Calls Try.prog 13 #[.agg c.list.toArray, .int .i64 4] w fun e w' => e = .returned (.bool b) ∧ Below w.heap.size w w' := by
  have hn := CfgAt.new w c
  have e2 := hn.c2
  have e3 := hn.c3
  have hB := Lib.hid ((Below.refl w.heap.size w).alloc (Nat.le_refl _) (.cells c.list.toArray 26))
  clear hn
  generalize c.list = cl at *
  generalize c.minDep = x2 at *
  generalize c.maxDep = x3 at *
  by_cases h0 : x2 ≤ x3
  case neg =>
    have hb' : b = false := by cases b with | false => rfl | true => exact absurd (hb.mp rfl) (by omega)
    subst hb'
    clear hb
    have h0' : x3 < x2 := by omega
    clear h0
    go_enter Try.func13, Try.ntmps13
    go_wp2
    go_ret
    exact ⟨ret1 (bool_eq (by first | rfl | (simp; omega))), hB.out⟩
  have hb' : b = true := by rw [hb]; exact h0
  subst hb'
  clear hb
  go_enter Try.func13, Try.ntmps13
  go_wp2
  go_ret
  exact ⟨ret1 (bool_eq (by first | rfl | (simp; omega))), hB.out⟩

set_option maxHeartbeats 1000000 in
set_option maxRecDepth 100000 in
theorem right_5 (c : Cfg) (w : World) (b : Bool) (hb : (b = true) = (c.maxDep ≤ c.supply ∧ c.supply ≤ 1152921504606846976)) :
    Calls Try.prog 13 #[.agg c.list.toArray, .int .i64 5] w fun e w' => e = .returned (.bool b) ∧ Below w.heap.size w w' := by
  have hn := CfgAt.new w c
  have e3 := hn.c3
  have e4 := hn.c4
  have hB := Lib.hid ((Below.refl w.heap.size w).alloc (Nat.le_refl _) (.cells c.list.toArray 26))
  clear hn
  generalize c.list = cl at *
  generalize c.maxDep = x3 at *
  generalize c.supply = x4 at *
  by_cases h0 : x3 ≤ x4
  case neg =>
    have hb' : b = false := by cases b with | false => rfl | true => exact absurd (hb.mp rfl) (by omega)
    subst hb'
    clear hb
    have h0' : x4 < x3 := by omega
    clear h0
    go_enter Try.func13, Try.ntmps13
    go_wp2
    go_ret
    exact ⟨ret1 (bool_eq (by first | rfl | (simp; omega))), hB.out⟩
  by_cases h1 : x4 ≤ 1152921504606846976
  case neg =>
    have hb' : b = false := by cases b with | false => rfl | true => exact absurd (hb.mp rfl) (by omega)
    subst hb'
    clear hb
    have h1' : 1152921504606846976 < x4 := by omega
    clear h1
    go_enter Try.func13, Try.ntmps13
    go_wp2
    go_ret
    exact ⟨ret1 (bool_eq (by first | rfl | (simp; omega))), hB.out⟩
  have hb' : b = true := by rw [hb]; exact ⟨h0, h1⟩
  subst hb'
  clear hb
  go_enter Try.func13, Try.ntmps13
  go_wp2
  go_ret
  exact ⟨ret1 (bool_eq (by first | rfl | (simp; omega))), hB.out⟩

set_option maxHeartbeats 1000000 in
set_option maxRecDepth 100000 in
theorem right_6 (c : Cfg) (w : World) (b : Bool) (hb : (b = true) = (1 ≤ c.minBal ∧ c.minBal ≤ c.minDep)) :
    Calls Try.prog 13 #[.agg c.list.toArray, .int .i64 6] w fun e w' => e = .returned (.bool b) ∧ Below w.heap.size w w' := by
  have hn := CfgAt.new w c
  have e2 := hn.c2
  have e5 := hn.c5
  have hB := Lib.hid ((Below.refl w.heap.size w).alloc (Nat.le_refl _) (.cells c.list.toArray 26))
  clear hn
  generalize c.list = cl at *
  generalize c.minDep = x2 at *
  generalize c.minBal = x5 at *
  by_cases h0 : 1 ≤ x5
  case neg =>
    have hb' : b = false := by cases b with | false => rfl | true => exact absurd (hb.mp rfl) (by omega)
    subst hb'
    clear hb
    have h0' : x5 < 1 := by omega
    clear h0
    go_enter Try.func13, Try.ntmps13
    go_wp2
    go_ret
    exact ⟨ret1 (bool_eq (by first | rfl | (simp; omega))), hB.out⟩
  by_cases h1 : x5 ≤ x2
  case neg =>
    have hb' : b = false := by cases b with | false => rfl | true => exact absurd (hb.mp rfl) (by omega)
    subst hb'
    clear hb
    have h1' : x2 < x5 := by omega
    clear h1
    go_enter Try.func13, Try.ntmps13
    go_wp2
    go_ret
    exact ⟨ret1 (bool_eq (by first | rfl | (simp; omega))), hB.out⟩
  have hb' : b = true := by rw [hb]; exact ⟨h0, h1⟩
  subst hb'
  clear hb
  go_enter Try.func13, Try.ntmps13
  go_wp2
  go_ret
  exact ⟨ret1 (bool_eq (by first | rfl | (simp; omega))), hB.out⟩

set_option maxHeartbeats 1000000 in
set_option maxRecDepth 100000 in
theorem right_7 (c : Cfg) (w : World) (b : Bool) (hb : (b = true) = (c.maxDep ≤ c.maxBal ∧ c.maxBal ≤ c.supply)) :
    Calls Try.prog 13 #[.agg c.list.toArray, .int .i64 7] w fun e w' => e = .returned (.bool b) ∧ Below w.heap.size w w' := by
  have hn := CfgAt.new w c
  have e3 := hn.c3
  have e4 := hn.c4
  have e6 := hn.c6
  have hB := Lib.hid ((Below.refl w.heap.size w).alloc (Nat.le_refl _) (.cells c.list.toArray 26))
  clear hn
  generalize c.list = cl at *
  generalize c.maxDep = x3 at *
  generalize c.supply = x4 at *
  generalize c.maxBal = x6 at *
  by_cases h0 : x3 ≤ x6
  case neg =>
    have hb' : b = false := by cases b with | false => rfl | true => exact absurd (hb.mp rfl) (by omega)
    subst hb'
    clear hb
    have h0' : x6 < x3 := by omega
    clear h0
    go_enter Try.func13, Try.ntmps13
    go_wp2
    go_ret
    exact ⟨ret1 (bool_eq (by first | rfl | (simp; omega))), hB.out⟩
  by_cases h1 : x6 ≤ x4
  case neg =>
    have hb' : b = false := by cases b with | false => rfl | true => exact absurd (hb.mp rfl) (by omega)
    subst hb'
    clear hb
    have h1' : x4 < x6 := by omega
    clear h1
    go_enter Try.func13, Try.ntmps13
    go_wp2
    go_ret
    exact ⟨ret1 (bool_eq (by first | rfl | (simp; omega))), hB.out⟩
  have hb' : b = true := by rw [hb]; exact ⟨h0, h1⟩
  subst hb'
  clear hb
  go_enter Try.func13, Try.ntmps13
  go_wp2
  go_ret
  exact ⟨ret1 (bool_eq (by first | rfl | (simp; omega))), hB.out⟩

set_option maxHeartbeats 1000000 in
set_option maxRecDepth 100000 in
theorem right_8 (c : Cfg) (w : World) (b : Bool) (hb : (b = true) = (1 ≤ c.minChurn ∧ c.minChurn ≤ 1152921504606846976)) :
    Calls Try.prog 13 #[.agg c.list.toArray, .int .i64 8] w fun e w' => e = .returned (.bool b) ∧ Below w.heap.size w w' := by
  have hn := CfgAt.new w c
  have e7 := hn.c7
  have hB := Lib.hid ((Below.refl w.heap.size w).alloc (Nat.le_refl _) (.cells c.list.toArray 26))
  clear hn
  generalize c.list = cl at *
  generalize c.minChurn = x7 at *
  by_cases h0 : 1 ≤ x7
  case neg =>
    have hb' : b = false := by cases b with | false => rfl | true => exact absurd (hb.mp rfl) (by omega)
    subst hb'
    clear hb
    have h0' : x7 < 1 := by omega
    clear h0
    go_enter Try.func13, Try.ntmps13
    go_wp2
    go_ret
    exact ⟨ret1 (bool_eq (by first | rfl | (simp; omega))), hB.out⟩
  by_cases h1 : x7 ≤ 1152921504606846976
  case neg =>
    have hb' : b = false := by cases b with | false => rfl | true => exact absurd (hb.mp rfl) (by omega)
    subst hb'
    clear hb
    have h1' : 1152921504606846976 < x7 := by omega
    clear h1
    go_enter Try.func13, Try.ntmps13
    go_wp2
    go_ret
    exact ⟨ret1 (bool_eq (by first | rfl | (simp; omega))), hB.out⟩
  have hb' : b = true := by rw [hb]; exact ⟨h0, h1⟩
  subst hb'
  clear hb
  go_enter Try.func13, Try.ntmps13
  go_wp2
  go_ret
  exact ⟨ret1 (bool_eq (by first | rfl | (simp; omega))), hB.out⟩

set_option maxHeartbeats 1000000 in
set_option maxRecDepth 100000 in
theorem right_9 (c : Cfg) (w : World) (b : Bool) (hb : (b = true) = (1 ≤ c.quot)) :
    Calls Try.prog 13 #[.agg c.list.toArray, .int .i64 9] w fun e w' => e = .returned (.bool b) ∧ Below w.heap.size w w' := by
  have hn := CfgAt.new w c
  have e8 := hn.c8
  have hB := Lib.hid ((Below.refl w.heap.size w).alloc (Nat.le_refl _) (.cells c.list.toArray 26))
  clear hn
  generalize c.list = cl at *
  generalize c.quot = x8 at *
  by_cases h0 : 1 ≤ x8
  case neg =>
    have hb' : b = false := by cases b with | false => rfl | true => exact absurd (hb.mp rfl) (by omega)
    subst hb'
    clear hb
    have h0' : x8 < 1 := by omega
    clear h0
    go_enter Try.func13, Try.ntmps13
    go_wp2
    go_ret
    exact ⟨ret1 (bool_eq (by first | rfl | (simp; omega))), hB.out⟩
  have hb' : b = true := by rw [hb]; exact h0
  subst hb'
  clear hb
  go_enter Try.func13, Try.ntmps13
  go_wp2
  go_ret
  exact ⟨ret1 (bool_eq (by first | rfl | (simp; omega))), hB.out⟩

set_option maxHeartbeats 1000000 in
set_option maxRecDepth 100000 in
theorem right_10 (c : Cfg) (w : World) (b : Bool) (hb : (b = true) = (c.forced ≤ 1152921504606846976)) :
    Calls Try.prog 13 #[.agg c.list.toArray, .int .i64 10] w fun e w' => e = .returned (.bool b) ∧ Below w.heap.size w w' := by
  have hn := CfgAt.new w c
  have e9 := hn.c9
  have hB := Lib.hid ((Below.refl w.heap.size w).alloc (Nat.le_refl _) (.cells c.list.toArray 26))
  clear hn
  generalize c.list = cl at *
  generalize c.forced = x9 at *
  by_cases h0 : x9 ≤ 1152921504606846976
  case neg =>
    have hb' : b = false := by cases b with | false => rfl | true => exact absurd (hb.mp rfl) (by omega)
    subst hb'
    clear hb
    have h0' : 1152921504606846976 < x9 := by omega
    clear h0
    go_enter Try.func13, Try.ntmps13
    go_wp2
    go_ret
    exact ⟨ret1 (bool_eq (by first | rfl | (simp; omega))), hB.out⟩
  have hb' : b = true := by rw [hb]; exact h0
  subst hb'
  clear hb
  go_enter Try.func13, Try.ntmps13
  go_wp2
  go_ret
  exact ⟨ret1 (bool_eq (by first | rfl | (simp; omega))), hB.out⟩

set_option maxHeartbeats 1000000 in
set_option maxRecDepth 100000 in
theorem right_11 (c : Cfg) (w : World) (b : Bool) (hb : (b = true) = (1 ≤ c.unb ∧ c.unb ≤ 1048576)) :
    Calls Try.prog 13 #[.agg c.list.toArray, .int .i64 11] w fun e w' => e = .returned (.bool b) ∧ Below w.heap.size w w' := by
  have hn := CfgAt.new w c
  have e10 := hn.c10
  have hB := Lib.hid ((Below.refl w.heap.size w).alloc (Nat.le_refl _) (.cells c.list.toArray 26))
  clear hn
  generalize c.list = cl at *
  generalize c.unb = x10 at *
  by_cases h : 1 ≤ x10 ∧ x10 ≤ 1048576
  · have hb' : b = true := by rw [hb]; exact h
    subst hb'
    have h1 := h.1
    have h2 := h.2
    clear h hb
    go_enter Try.func13, Try.ntmps13
    go_wp2_with (go_at_call 22; refine (between_yes _ _ _ _ (by omega) (by omega)).mono ?_; rintro e w' ⟨rfl, rfl⟩)
    go_ret
    exact ⟨ret1 (bool_eq (by first | rfl | (simp; omega))), hB.out⟩
  · have hb' : b = false := by cases b with | false => rfl | true => exact absurd (hb.mp rfl) h
    subst hb'
    have h1 : x10 < 1 ∨ 1048576 < x10 := by omega
    clear h hb
    go_enter Try.func13, Try.ntmps13
    go_wp2_with (go_at_call 22; refine (between_no _ _ _ _ h1).mono ?_; rintro e w' ⟨rfl, rfl⟩)
    go_ret
    exact ⟨ret1 (bool_eq (by first | rfl | (simp; omega))), hB.out⟩

set_option maxHeartbeats 1000000 in
set_option maxRecDepth 100000 in
theorem right_12 (c : Cfg) (w : World) (b : Bool) (hb : (b = true) = (c.unb < c.slash ∧ c.slash ≤ 1048576)) :
    Calls Try.prog 13 #[.agg c.list.toArray, .int .i64 12] w fun e w' => e = .returned (.bool b) ∧ Below w.heap.size w w' := by
  have hn := CfgAt.new w c
  have e10 := hn.c10
  have e11 := hn.c11
  have hB := Lib.hid ((Below.refl w.heap.size w).alloc (Nat.le_refl _) (.cells c.list.toArray 26))
  clear hn
  generalize c.list = cl at *
  generalize c.unb = x10 at *
  generalize c.slash = x11 at *
  by_cases h0 : x10 < x11
  case neg =>
    have hb' : b = false := by cases b with | false => rfl | true => exact absurd (hb.mp rfl) (by omega)
    subst hb'
    clear hb
    have h0' : x11 ≤ x10 := by omega
    clear h0
    go_enter Try.func13, Try.ntmps13
    go_wp2
    go_ret
    exact ⟨ret1 (bool_eq (by first | rfl | (simp; omega))), hB.out⟩
  by_cases h1 : x11 ≤ 1048576
  case neg =>
    have hb' : b = false := by cases b with | false => rfl | true => exact absurd (hb.mp rfl) (by omega)
    subst hb'
    clear hb
    have h1' : 1048576 < x11 := by omega
    clear h1
    go_enter Try.func13, Try.ntmps13
    go_wp2
    go_ret
    exact ⟨ret1 (bool_eq (by first | rfl | (simp; omega))), hB.out⟩
  have hb' : b = true := by rw [hb]; exact ⟨h0, h1⟩
  subst hb'
  clear hb
  go_enter Try.func13, Try.ntmps13
  go_wp2
  go_ret
  exact ⟨ret1 (bool_eq (by first | rfl | (simp; omega))), hB.out⟩

set_option maxHeartbeats 1000000 in
set_option maxRecDepth 100000 in
theorem right_13 (c : Cfg) (w : World) (b : Bool) (hb : (b = true) = (1 ≤ c.ring ∧ c.ring ≤ 4096)) :
    Calls Try.prog 13 #[.agg c.list.toArray, .int .i64 13] w fun e w' => e = .returned (.bool b) ∧ Below w.heap.size w w' := by
  have hn := CfgAt.new w c
  have e12 := hn.c12
  have hB := Lib.hid ((Below.refl w.heap.size w).alloc (Nat.le_refl _) (.cells c.list.toArray 26))
  clear hn
  generalize c.list = cl at *
  generalize c.ring = x12 at *
  by_cases h : 1 ≤ x12 ∧ x12 ≤ 4096
  · have hb' : b = true := by rw [hb]; exact h
    subst hb'
    have h1 := h.1
    have h2 := h.2
    clear h hb
    go_enter Try.func13, Try.ntmps13
    go_wp2_with (go_at_call 22; refine (between_yes _ _ _ _ (by omega) (by omega)).mono ?_; rintro e w' ⟨rfl, rfl⟩)
    go_ret
    exact ⟨ret1 (bool_eq (by first | rfl | (simp; omega))), hB.out⟩
  · have hb' : b = false := by cases b with | false => rfl | true => exact absurd (hb.mp rfl) h
    subst hb'
    have h1 : x12 < 1 ∨ 4096 < x12 := by omega
    clear h hb
    go_enter Try.func13, Try.ntmps13
    go_wp2_with (go_at_call 22; refine (between_no _ _ _ _ h1).mono ?_; rintro e w' ⟨rfl, rfl⟩)
    go_ret
    exact ⟨ret1 (bool_eq (by first | rfl | (simp; omega))), hB.out⟩

set_option maxHeartbeats 1000000 in
set_option maxRecDepth 100000 in
theorem right_14 (c : Cfg) (w : World) (b : Bool) (hb : (b = true) = (1 ≤ c.epl ∧ c.epl ≤ 4096)) :
    Calls Try.prog 13 #[.agg c.list.toArray, .int .i64 14] w fun e w' => e = .returned (.bool b) ∧ Below w.heap.size w w' := by
  have hn := CfgAt.new w c
  have e13 := hn.c13
  have hB := Lib.hid ((Below.refl w.heap.size w).alloc (Nat.le_refl _) (.cells c.list.toArray 26))
  clear hn
  generalize c.list = cl at *
  generalize c.epl = x13 at *
  by_cases h : 1 ≤ x13 ∧ x13 ≤ 4096
  · have hb' : b = true := by rw [hb]; exact h
    subst hb'
    have h1 := h.1
    have h2 := h.2
    clear h hb
    go_enter Try.func13, Try.ntmps13
    go_wp2_with (go_at_call 22; refine (between_yes _ _ _ _ (by omega) (by omega)).mono ?_; rintro e w' ⟨rfl, rfl⟩)
    go_ret
    exact ⟨ret1 (bool_eq (by first | rfl | (simp; omega))), hB.out⟩
  · have hb' : b = false := by cases b with | false => rfl | true => exact absurd (hb.mp rfl) h
    subst hb'
    have h1 : x13 < 1 ∨ 4096 < x13 := by omega
    clear h hb
    go_enter Try.func13, Try.ntmps13
    go_wp2_with (go_at_call 22; refine (between_no _ _ _ _ h1).mono ?_; rintro e w' ⟨rfl, rfl⟩)
    go_ret
    exact ⟨ret1 (bool_eq (by first | rfl | (simp; omega))), hB.out⟩

set_option maxHeartbeats 1000000 in
set_option maxRecDepth 100000 in
theorem right_15 (c : Cfg) (w : World) (b : Bool) (hb : (b = true) = (1 ≤ c.visits ∧ c.visits ≤ 4096)) :
    Calls Try.prog 13 #[.agg c.list.toArray, .int .i64 15] w fun e w' => e = .returned (.bool b) ∧ Below w.heap.size w w' := by
  have hn := CfgAt.new w c
  have e14 := hn.c14
  have hB := Lib.hid ((Below.refl w.heap.size w).alloc (Nat.le_refl _) (.cells c.list.toArray 26))
  clear hn
  generalize c.list = cl at *
  generalize c.visits = x14 at *
  by_cases h : 1 ≤ x14 ∧ x14 ≤ 4096
  · have hb' : b = true := by rw [hb]; exact h
    subst hb'
    have h1 := h.1
    have h2 := h.2
    clear h hb
    go_enter Try.func13, Try.ntmps13
    go_wp2_with (go_at_call 22; refine (between_yes _ _ _ _ (by omega) (by omega)).mono ?_; rintro e w' ⟨rfl, rfl⟩)
    go_ret
    exact ⟨ret1 (bool_eq (by first | rfl | (simp; omega))), hB.out⟩
  · have hb' : b = false := by cases b with | false => rfl | true => exact absurd (hb.mp rfl) h
    subst hb'
    have h1 : x14 < 1 ∨ 4096 < x14 := by omega
    clear h hb
    go_enter Try.func13, Try.ntmps13
    go_wp2_with (go_at_call 22; refine (between_no _ _ _ _ h1).mono ?_; rintro e w' ⟨rfl, rfl⟩)
    go_ret
    exact ⟨ret1 (bool_eq (by first | rfl | (simp; omega))), hB.out⟩

set_option maxHeartbeats 1000000 in
set_option maxRecDepth 100000 in
theorem right_16 (c : Cfg) (w : World) (b : Bool) (hb : (b = true) = (1 ≤ c.pays ∧ c.pays ≤ 4096)) :
    Calls Try.prog 13 #[.agg c.list.toArray, .int .i64 16] w fun e w' => e = .returned (.bool b) ∧ Below w.heap.size w w' := by
  have hn := CfgAt.new w c
  have e15 := hn.c15
  have hB := Lib.hid ((Below.refl w.heap.size w).alloc (Nat.le_refl _) (.cells c.list.toArray 26))
  clear hn
  generalize c.list = cl at *
  generalize c.pays = x15 at *
  by_cases h : 1 ≤ x15 ∧ x15 ≤ 4096
  · have hb' : b = true := by rw [hb]; exact h
    subst hb'
    have h1 := h.1
    have h2 := h.2
    clear h hb
    go_enter Try.func13, Try.ntmps13
    go_wp2_with (go_at_call 22; refine (between_yes _ _ _ _ (by omega) (by omega)).mono ?_; rintro e w' ⟨rfl, rfl⟩)
    go_ret
    exact ⟨ret1 (bool_eq (by first | rfl | (simp; omega))), hB.out⟩
  · have hb' : b = false := by cases b with | false => rfl | true => exact absurd (hb.mp rfl) h
    subst hb'
    have h1 : x15 < 1 ∨ 4096 < x15 := by omega
    clear h hb
    go_enter Try.func13, Try.ntmps13
    go_wp2_with (go_at_call 22; refine (between_no _ _ _ _ h1).mono ?_; rintro e w' ⟨rfl, rfl⟩)
    go_ret
    exact ⟨ret1 (bool_eq (by first | rfl | (simp; omega))), hB.out⟩

set_option maxHeartbeats 1000000 in
set_option maxRecDepth 100000 in
theorem right_17 (c : Cfg) (w : World) (b : Bool) (hb : (b = true) = (0 ≤ c.parts ∧ c.parts < c.visits ∧ c.parts < c.pays)) :
    Calls Try.prog 13 #[.agg c.list.toArray, .int .i64 17] w fun e w' => e = .returned (.bool b) ∧ Below w.heap.size w w' := by
  have hn := CfgAt.new w c
  have e14 := hn.c14
  have e15 := hn.c15
  have e16 := hn.c16
  have hB := Lib.hid ((Below.refl w.heap.size w).alloc (Nat.le_refl _) (.cells c.list.toArray 26))
  clear hn
  generalize c.list = cl at *
  generalize c.visits = x14 at *
  generalize c.pays = x15 at *
  generalize c.parts = x16 at *
  by_cases h0 : 0 ≤ x16
  case neg =>
    have hb' : b = false := by cases b with | false => rfl | true => exact absurd (hb.mp rfl) (by omega)
    subst hb'
    clear hb
    have h0' : x16 < 0 := by omega
    clear h0
    go_enter Try.func13, Try.ntmps13
    go_wp2
    go_ret
    exact ⟨ret1 (bool_eq (by first | rfl | (simp; omega))), hB.out⟩
  by_cases h1 : x16 < x14
  case neg =>
    have hb' : b = false := by cases b with | false => rfl | true => exact absurd (hb.mp rfl) (by omega)
    subst hb'
    clear hb
    have h1' : x14 ≤ x16 := by omega
    clear h1
    go_enter Try.func13, Try.ntmps13
    go_wp2
    go_ret
    exact ⟨ret1 (bool_eq (by first | rfl | (simp; omega))), hB.out⟩
  by_cases h2 : x16 < x15
  case neg =>
    have hb' : b = false := by cases b with | false => rfl | true => exact absurd (hb.mp rfl) (by omega)
    subst hb'
    clear hb
    have h2' : x15 ≤ x16 := by omega
    clear h2
    go_enter Try.func13, Try.ntmps13
    go_wp2
    go_ret
    exact ⟨ret1 (bool_eq (by first | rfl | (simp; omega))), hB.out⟩
  have hb' : b = true := by rw [hb]; exact ⟨h0, h1, h2⟩
  subst hb'
  clear hb
  go_enter Try.func13, Try.ntmps13
  go_wp2
  go_ret
  exact ⟨ret1 (bool_eq (by first | rfl | (simp; omega))), hB.out⟩

set_option maxHeartbeats 1000000 in
set_option maxRecDepth 100000 in
theorem right_18 (c : Cfg) (w : World) (b : Bool) (hb : (b = true) = (0 ≤ c.merges ∧ c.merges ≤ 4096)) :
    Calls Try.prog 13 #[.agg c.list.toArray, .int .i64 18] w fun e w' => e = .returned (.bool b) ∧ Below w.heap.size w w' := by
  have hn := CfgAt.new w c
  have e17 := hn.c17
  have hB := Lib.hid ((Below.refl w.heap.size w).alloc (Nat.le_refl _) (.cells c.list.toArray 26))
  clear hn
  generalize c.list = cl at *
  generalize c.merges = x17 at *
  by_cases h : 0 ≤ x17 ∧ x17 ≤ 4096
  · have hb' : b = true := by rw [hb]; exact h
    subst hb'
    have h1 := h.1
    have h2 := h.2
    clear h hb
    go_enter Try.func13, Try.ntmps13
    go_wp2_with (go_at_call 22; refine (between_yes _ _ _ _ (by omega) (by omega)).mono ?_; rintro e w' ⟨rfl, rfl⟩)
    go_ret
    exact ⟨ret1 (bool_eq (by first | rfl | (simp; omega))), hB.out⟩
  · have hb' : b = false := by cases b with | false => rfl | true => exact absurd (hb.mp rfl) h
    subst hb'
    have h1 : x17 < 0 ∨ 4096 < x17 := by omega
    clear h hb
    go_enter Try.func13, Try.ntmps13
    go_wp2_with (go_at_call 22; refine (between_no _ _ _ _ h1).mono ?_; rintro e w' ⟨rfl, rfl⟩)
    go_ret
    exact ⟨ret1 (bool_eq (by first | rfl | (simp; omega))), hB.out⟩

set_option maxHeartbeats 1000000 in
set_option maxRecDepth 100000 in
theorem right_19 (c : Cfg) (w : World) (b : Bool) (hb : (b = true) = (c.pnum ≤ c.pden)) :
    Calls Try.prog 13 #[.agg c.list.toArray, .int .i64 19] w fun e w' => e = .returned (.bool b) ∧ Below w.heap.size w w' := by
  have hn := CfgAt.new w c
  have e18 := hn.c18
  have e19 := hn.c19
  have hB := Lib.hid ((Below.refl w.heap.size w).alloc (Nat.le_refl _) (.cells c.list.toArray 26))
  clear hn
  generalize c.list = cl at *
  generalize c.pnum = x18 at *
  generalize c.pden = x19 at *
  by_cases h0 : x18 ≤ x19
  case neg =>
    have hb' : b = false := by cases b with | false => rfl | true => exact absurd (hb.mp rfl) (by omega)
    subst hb'
    clear hb
    have h0' : x19 < x18 := by omega
    clear h0
    go_enter Try.func13, Try.ntmps13
    go_wp2
    go_ret
    exact ⟨ret1 (bool_eq (by first | rfl | (simp; omega))), hB.out⟩
  have hb' : b = true := by rw [hb]; exact h0
  subst hb'
  clear hb
  go_enter Try.func13, Try.ntmps13
  go_wp2
  go_ret
  exact ⟨ret1 (bool_eq (by first | rfl | (simp; omega))), hB.out⟩

set_option maxHeartbeats 1000000 in
set_option maxRecDepth 100000 in
theorem right_20 (c : Cfg) (w : World) (b : Bool) (hb : (b = true) = (1 ≤ c.pden ∧ c.pden ≤ 4294967296)) :
    Calls Try.prog 13 #[.agg c.list.toArray, .int .i64 20] w fun e w' => e = .returned (.bool b) ∧ Below w.heap.size w w' := by
  have hn := CfgAt.new w c
  have e19 := hn.c19
  have hB := Lib.hid ((Below.refl w.heap.size w).alloc (Nat.le_refl _) (.cells c.list.toArray 26))
  clear hn
  generalize c.list = cl at *
  generalize c.pden = x19 at *
  by_cases h0 : 1 ≤ x19
  case neg =>
    have hb' : b = false := by cases b with | false => rfl | true => exact absurd (hb.mp rfl) (by omega)
    subst hb'
    clear hb
    have h0' : x19 < 1 := by omega
    clear h0
    go_enter Try.func13, Try.ntmps13
    go_wp2
    go_ret
    exact ⟨ret1 (bool_eq (by first | rfl | (simp; omega))), hB.out⟩
  by_cases h1 : x19 ≤ 4294967296
  case neg =>
    have hb' : b = false := by cases b with | false => rfl | true => exact absurd (hb.mp rfl) (by omega)
    subst hb'
    clear hb
    have h1' : 4294967296 < x19 := by omega
    clear h1
    go_enter Try.func13, Try.ntmps13
    go_wp2
    go_ret
    exact ⟨ret1 (bool_eq (by first | rfl | (simp; omega))), hB.out⟩
  have hb' : b = true := by rw [hb]; exact ⟨h0, h1⟩
  subst hb'
  clear hb
  go_enter Try.func13, Try.ntmps13
  go_wp2
  go_ret
  exact ⟨ret1 (bool_eq (by first | rfl | (simp; omega))), hB.out⟩

end Go.Proofs.Ytbafgipegekbcaa
