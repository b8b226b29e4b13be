/- Chapter 17: Available, Apply; the reference's Available. -/
import Derived.Test.YtbafgipegekbcaaPut
import Derived.Test.YtbafgipegekbcaaClone
import Derived.Test.YtbafgipegekbcaaEqw
import Derived.Test.YtbafgipegekbcaaDflt
import Derived.Test.YtbafgipegekbcaaCfgC
namespace Go.Proofs.Ytbafgipegekbcaa
open Go.RowKit
set_option linter.unusedSimpArgs false
set_option linter.unusedVariables false
set_option maxRecDepth 20000

set_option maxHeartbeats 400000 in
theorem sub_yes (a b : Int) (w : World) (h0 : 0 ≤ b) (h : b ≤ a) (h1 : a ≤ 18446744073709551615) : Calls Try.prog 23 #[.int .u64 a, .int .u64 b] w fun e w' => e = .returned (.tuple #[.int .u64 (a - b), .bool true]) ∧ w = w' := by
  have hw : IntKind.u64.wrap (a - b) = a - b := IntWalk.u64_in _ (by omega)
  have hd : ¬ a < b := by omega
  go_enter Try.func23, Try.ntmps23
  go_wp2
  go_ret2
  exact ⟨rfl, rfl⟩
set_option maxHeartbeats 400000 in
theorem sub_no (a b : Int) (w : World) (h : a < b) : Calls Try.prog 23 #[.int .u64 a, .int .u64 b] w fun e w' => e = .returned (.tuple #[.int .u64 0, .bool false]) ∧ w = w' := by
  go_enter Try.func23, Try.ntmps23
  go_wp2
  go_ret2
  exact ⟨rfl, rfl⟩

/-- The amount that may be paid. -/
def avail (v : Val) (c : Cfg) : Int := if v.st = 2 ∧ v.sl = false ∧ c.minBal < v.bal then v.bal - c.minBal else 0
theorem avail_bd {v : Val} {c : Cfg} (hv : v.Ok) (hc : 0 ≤ c.minBal) : 0 ≤ avail v c ∧ avail v c ≤ v.bal := by
  have := hv.1
  unfold avail
  split <;> omega

/-- A validator and a configuration, boxed one behind the other at p. -/
structure Vc (p : Nat) (w0 : World) (x : Val) (c : Cfg) (w : World) : Prop where
  hx : ValAt w p x
  hc : CfgAt w (p + 1) c
  hb : Below p w0 w
theorem Vc.call {p : Nat} {w0 w w' : World} {x : Val} {c : Cfg} (h : Vc p w0 x c w) (hb : Below w.heap.size w w') : Vc p w0 x c w' :=
  ⟨h.hx.call hb, h.hc.call hb, h.hb.trans (hb.mono (Nat.le_of_lt h.hx.lt))⟩
theorem Vc.new (w : World) (x : Val) (c : Cfg) : Vc w.heap.size w x c ((w.alloc (.cells x.list.toArray 35)).alloc (.cells c.list.toArray 26)) := by
  have h1 := (Below.refl w.heap.size w).alloc (Nat.le_refl _) (.cells x.list.toArray 35)
  refine ⟨(ValAt.new _ _).alloc _, ?_, h1.alloc h1.size _⟩
  have := CfgAt.new (w.alloc (.cells x.list.toArray 35)) c
  simpa using this

theorem avail_cases (v : Val) (c : Cfg) : (v.st ≠ 2 ∧ avail v c = 0) ∨ (v.st = 2 ∧ v.sl = true ∧ avail v c = 0) ∨ (v.st = 2 ∧ v.sl = false ∧ v.bal < c.minBal ∧ avail v c = 0) ∨ (v.st = 2 ∧ v.sl = false ∧ c.minBal ≤ v.bal ∧ avail v c = v.bal - c.minBal) := by
  unfold avail
  by_cases h1 : v.st = 2
  · cases h2 : v.sl
    · by_cases h3 : v.bal < c.minBal
      · right; right; left; refine ⟨h1, rfl, h3, ?_⟩; rw [if_neg (by omega)]
      · right; right; right; refine ⟨h1, rfl, by omega, ?_⟩
        by_cases h4 : c.minBal < v.bal
        · rw [if_pos ⟨h1, rfl, h4⟩]
        · rw [if_neg (by omega)]; omega
    · right; left; exact ⟨h1, rfl, by rw [if_neg (by simp)]⟩
  · left; exact ⟨h1, by rw [if_neg (by simp [h1])]⟩

set_option maxHeartbeats 2000000 in
theorem avail_any (v : Val) (c : Cfg) (w : World) (hv : v.Ok) (hc : 0 ≤ c.minBal) :
    Calls Try.prog 16 #[.agg v.list.toArray, .agg c.list.toArray] w fun e w' => e = .returned (.int .u64 (avail v c)) ∧ Below w.heap.size w w' := by
  have HF := Lib.hid (Vc.new w v c)
  have x1 := HF.out.hx.c1
  have x2 := HF.out.hx.c2
  rcases avail_cases v c with ⟨h1, h2⟩ | ⟨h1, h2, h3⟩ | ⟨h1, h2, h3, h4⟩ | ⟨h1, h2, h3, h4⟩
  · have g1 : (v.st != 2) = true := by simpa using h1
    rw [h2]
    clear h1 h2 x2
    go_enter Try.func16, Try.ntmps16
    go_wp2
    go_ret
    exact ⟨rfl, HF.out.hb⟩
  · rw [h1] at x1
    rw [h2] at x2
    rw [h3]
    clear h1 h2 h3
    go_enter Try.func16, Try.ntmps16
    go_wp2
    go_ret
    exact ⟨rfl, HF.out.hb⟩
  · rw [h1] at x1
    rw [h2] at x2
    rw [h4]
    have x0 := HF.out.hx.c0
    have y5 := HF.out.hc.c5
    have HS := Lib.hid (fun w => sub_no v.bal c.minBal w h3)
    clear h1 h2 h3 h4
    go_enter Try.func16, Try.ntmps16
    go_wp2_with (go_at_call 23; refine (HS.out _).mono ?_; rintro e w' ⟨rfl, rfl⟩)
    go_ret
    exact ⟨rfl, HF.out.hb⟩
  · rw [h1] at x1
    rw [h2] at x2
    rw [h4]
    have x0 := HF.out.hx.c0
    have y5 := HF.out.hc.c5
    have HS := Lib.hid (fun w => sub_yes v.bal c.minBal w hc h3 hv.2)
    clear h1 h2 h3 h4
    go_enter Try.func16, Try.ntmps16
    go_wp2_with (go_at_call 23; refine (HS.out _).mono ?_; rintro e w' ⟨rfl, rfl⟩)
    go_ret
    exact ⟨rfl, HF.out.hb⟩

set_option maxHeartbeats 2000000 in
theorem ravail_any (v : Val) (c : Cfg) (w : World) (hv : v.Ok) (hc : 0 ≤ c.minBal) :
    Calls Try.prog 20 #[.agg v.list.toArray, .agg c.list.toArray] w fun e w' => e = .returned (.int .u64 (avail v c)) ∧ Below w.heap.size w w' := by
  have HF := Lib.hid (Vc.new w v c)
  have x1 := HF.out.hx.c1
  have x2 := HF.out.hx.c2
  have x0 := HF.out.hx.c0
  have y5 := HF.out.hc.c5
  rcases avail_cases v c with ⟨h1, h2⟩ | ⟨h1, h2, h3⟩ | ⟨h1, h2, h3, h4⟩ | ⟨h1, h2, h3, h4⟩
  · have g1 : (v.st != 2) = true := by simpa using h1
    rw [h2]
    clear h1 h2 x2
    go_enter Try.func20, Try.ntmps20
    go_wp2
    go_ret
    exact ⟨rfl, HF.out.hb⟩
  · rw [h1] at x1
    rw [h2] at x2
    rw [h3]
    clear h1 h2 h3
    go_enter Try.func20, Try.ntmps20
    go_wp2
    go_ret
    exact ⟨rfl, HF.out.hb⟩
  · rw [h1] at x1
    rw [h2] at x2
    rw [h4]
    generalize v.bal = b at *
    generalize c.minBal = mb at *
    have hd : decide (b ≤ mb) = true := by rw [decide_eq_true_iff]; omega
    clear h1 h2 h4
    go_enter Try.func20, Try.ntmps20
    go_wp2
    go_ret
    exact ⟨rfl, HF.out.hb⟩
  · rw [h1] at x1
    rw [h2] at x2
    rw [h4]
    have hv1 := hv.2
    generalize v.bal = b at *
    generalize c.minBal = mb at *
    have hw : IntKind.u64.wrap (b - mb) = b - mb := IntWalk.u64_in _ (by omega)
    by_cases he : b = mb
    · subst he
      have hd : decide (b ≤ b) = true := by simp
      have hz : b - b = 0 := by omega
      rw [hz]
      clear h1 h2 h4 hw hz
      go_enter Try.func20, Try.ntmps20
      go_wp2
      go_ret
      exact ⟨rfl, HF.out.hb⟩
    · have hd : decide (b ≤ mb) = false := by rw [decide_eq_false_iff_not]; omega
      have hd' : ¬ b ≤ mb := by omega
      clear h1 h2 h4 he
      go_enter Try.func20, Try.ntmps20
      go_wp2
      go_ret
      exact ⟨rfl, HF.out.hb⟩

end Go.Proofs.Ytbafgipegekbcaa
