/- Chapter 16: the reference's Check; Apply. -/
import Derived.Test.YtgmbgomlicamdaaMgA
import Derived.Test.YtgmbgomlicamdaaRadd
import Derived.Test.YtgmbgomlicamdaaRow
namespace Go.Proofs.Ytgmbgomlicamdaa
open Go.RowKit Go.Maps
set_option linter.unusedSimpArgs false
set_option linter.unusedVariables false

set_option maxHeartbeats 2000000 in
theorem rcheck_any (a b : Val) (c : Cfg) (w : World) (ha : a.Ok) (hb : b.Ok) (hm : c.maxBal ≤ 1152921504606846976) :
    Calls Try.prog 11 #[.agg a.list.toArray, .agg b.list.toArray, .agg c.list.toArray] w fun en w' => en = .returned (.int .i64 (Val.chk a b c)) ∧ Below w.heap.size w w' := by
  have HF := Lib.hid (Vvc.new w a b c)
  have HR : Hid (Val.chk a b c = if (a.st == 2 && b.st == 2) = false then 8 else if (!a.sl && !b.sl) = false then 9 else if decide (a.bal + b.bal ≤ c.maxBal) = false then 3 else 0) := rfl
  generalize Val.chk a b c = r at *
  have x1 := HF.out.hx.c1
  have y1 := HF.out.hy.c1
  by_cases h1 : a.st = 2
  case' neg =>
    have g1 : (a.st == 2) = false := by simpa using h1
    have g1' : (a.st != 2) = true := by simpa using h1
    have HR' : Hid (r = 8) := by rw [Hid, HR.out, g1]; simp
    clear HR h1 y1
    go_enter Try.func11, Try.ntmps11
    go_wp2
    go_ret
    exact ⟨ret1 (int_eq HR'.out.symm), HF.out.hb⟩
  rw [h1] at x1
  by_cases h2 : b.st = 2
  case' neg =>
    have g1 : (b.st == 2) = false := by simpa using h2
    have g1' : (b.st != 2) = true := by simpa using h2
    have HR' : Hid (r = 8) := by rw [Hid, HR.out, g1]; simp
    clear HR h1 h2
    go_enter Try.func11, Try.ntmps11
    go_wp2
    go_ret
    exact ⟨ret1 (int_eq HR'.out.symm), HF.out.hb⟩
  rw [h2] at y1
  have x2 := HF.out.hx.c2
  have y2 := HF.out.hy.c2
  have HR1 : Hid (r = if (!a.sl && !b.sl) = false then 9 else if decide (a.bal + b.bal ≤ c.maxBal) = false then 3 else 0) := by rw [Hid, HR.out, h1, h2]; simp
  clear HR h1 h2
  cases g2 : a.sl
  case' true =>
    have HR' : Hid (r = 9) := by rw [Hid, HR1.out, g2]; simp
    rw [g2] at x2
    clear HR1 g2 y2
    go_enter Try.func11, Try.ntmps11
    go_wp2
    go_ret
    exact ⟨ret1 (int_eq HR'.out.symm), HF.out.hb⟩
  rw [g2] at x2
  cases g3 : b.sl
  case' true =>
    have HR' : Hid (r = 9) := by rw [Hid, HR1.out, g3]; simp
    rw [g3] at y2
    clear HR1 g2 g3
    go_enter Try.func11, Try.ntmps11
    go_wp2
    go_ret
    exact ⟨ret1 (int_eq HR'.out.symm), HF.out.hb⟩
  rw [g3] at y2
  have HR2 : Hid (r = if decide (a.bal + b.bal ≤ c.maxBal) = false then 3 else 0) := by rw [Hid, HR1.out, g2, g3]; simp
  clear HR1 g2 g3
  have x0 := HF.out.hx.c0
  have y0 := HF.out.hy.c0
  have z6 := HF.out.hc.c6
  obtain ⟨a0, a1⟩ := ha
  obtain ⟨b0, b1⟩ := hb
  have hz : ∀ x ∈ ([a.bal, b.bal] : List Int), 0 ≤ x ∧ x ≤ 18446744073709551615 := by simp; omega
  have HI := Lib.hid (ints2 a.bal b.bal)
  generalize a.bal = p at *
  generalize b.bal = q at *
  generalize c.maxBal = mx at *
  by_cases hs : p + q ≤ 18446744073709551615
  · have HG := Lib.hid (fun w A cap h => radd_fits (w := w) A 2 cap [p, q] (by omega) h hz (by simpa using hs))
    have e1 : List.sum [p, q] = p + q := by simp
    rw [e1] at HG
    have h0 : 0 ≤ p + q := by omega
    by_cases hle : p + q ≤ mx
    · have HR' : Hid (r = 0) := by rw [Hid, HR2.out]; simp [hle]
      have hd : ¬ mx < p + q := by omega
      clear HR2 hz hs a0 a1 b0 b1 e1
      go_enter Try.func11, Try.ntmps11
      go_wp2_with fail
      refine (HG.out _ _ _ ?hi).mono ?_
      case hi => exact HI.out _ _ _ (by simp)
      rintro e w' ⟨rfl, m, rfl⟩
      go_wp2
      go_ret
      exact ⟨ret1 (int_eq HR'.out.symm), below_drewN (HF.out.hb.alloc HF.out.hb.size _) _⟩
    · have HR' : Hid (r = 3) := by rw [Hid, HR2.out]; simp [hle]
      have hd : mx < p + q := by omega
      clear HR2 hz hs a0 a1 b0 b1 e1 hle
      go_enter Try.func11, Try.ntmps11
      go_wp2_with fail
      refine (HG.out _ _ _ ?hi).mono ?_
      case hi => exact HI.out _ _ _ (by simp)
      rintro e w' ⟨rfl, m, rfl⟩
      go_wp2
      go_ret
      exact ⟨ret1 (int_eq HR'.out.symm), below_drewN (HF.out.hb.alloc HF.out.hb.size _) _⟩
  · have HG := Lib.hid (fun w A cap h => radd_over (w := w) A 2 cap [p, q] (by omega) h hz (by simp; omega))
    have hle : ¬ p + q ≤ mx := by omega
    have HR' : Hid (r = 3) := by rw [Hid, HR2.out]; simp [hle]
    clear HR2 hz hs a0 a1 b0 b1 hle hm
    go_enter Try.func11, Try.ntmps11
    go_wp2_with fail
    refine (HG.out _ _ _ ?hi).mono ?_
    case hi => exact HI.out _ _ _ (by simp)
    rintro e w' ⟨rfl, m, rfl⟩
    go_wp2
    go_ret
    exact ⟨ret1 (int_eq HR'.out.symm), below_drewN (HF.out.hb.alloc HF.out.hb.size _) _⟩

end Go.Proofs.Ytgmbgomlicamdaa
