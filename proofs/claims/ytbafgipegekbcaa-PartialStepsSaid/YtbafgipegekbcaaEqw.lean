/- '==' at validators. -/
import Derived.Test.YtbafgipegekbcaaVal
import Derived.Laws.StructEq
import Derived.Tactics2
import Derived.Test.YtbafgipegekbcaaCalm
namespace Go.Proofs.Ytbafgipegekbcaa
open Go.RowKit
set_option linter.unusedSimpArgs false
set_option linter.unusedVariables false

theorem eq_val (v u : Val) (w : World) : (Op.equalIn 10000 35 (.agg v.list.toArray) (.agg u.list.toArray)).run Try.prog w = .ok (decide (v = u)) w := by
  have hS : Try.prog.underlying 35 = some (.struct (Try.prog.fieldsOf 35)) := by kernel_rfl
  rw [show (10000 : Nat) = 9999 + 1 from rfl, run_equalIn_agg w 9999 35 _ _ hS (by kernel_rfl)]
  simp only [Program.fieldsOf, Try.underlying35]
  obtain ⟨a0, a1, a2, a3, a4, a5, a6⟩ := v
  obtain ⟨b0, b1, b2, b3, b4, b5, b6⟩ := u
  simp only [Val.list]
  go_simp
  by_cases h0 : a0 = b0 <;> by_cases h1 : a1 = b1 <;> by_cases h2 : a2 = b2 <;> by_cases h3 : a3 = b3 <;> by_cases h4 : a4 = b4 <;> by_cases h5 : a5 = b5 <;> by_cases h6 : a6 = b6 <;> simp [h0, h1, h2, h3, h4, h5, h6]

/-- '==' at two validators, in a region that draws its order. -/
theorem calm_eqv {ops : Array Oper} {C : World → Prop} {Q : Act → Prop} {a : Act} {o : Oper} {rest : List Oper} (x y : Val) (b : Bool) (p q : Operand) (ty : TypeId) (hw : Region.wanted o (yielded ops a.tmps) = true) (ho : o.op = .binOp .eql 35 p q ty)
    (hx : a.eval p = .agg x.list.toArray) (hy : a.eval q = .agg y.list.toArray) (hb : decide (x = y) = b) (h : wpQuiet Try.prog ops C Q rest (a.put o.dst (.bool b))) : wpQuiet Try.prog ops C Q (o :: rest) a := by
  refine calm_val hw (fun w hC => ?_) h
  have E := eq_val x y w
  rw [hb] at E
  have hg : Try.prog.eqGuardType Try.prog.depth 35 = false := by kernel_rfl
  unfold execOp
  simp only [ho, hx, hy]
  generalize x.list.toArray = xs at *
  generalize y.list.toArray = ys at *
  simp [run_eqGuard_agg w _ _ _ _ _ _ hg, run_eql_struct, E, Result.andThen, Sem.run_bind]

/-- '==' at two validators, at the list of a plain region. -/
theorem wpList_eqv {ops : Array Oper} {rest : List Oper} {o : Oper} {a : Act} {w : World} {Q : Exit → Act → World → Prop} (x y : Val) (b : Bool) (p q : Operand) (ty : TypeId) (hw : Region.wanted o (yielded ops a.tmps) = true) (ho : o.op = .binOp .eql 35 p q ty)
    (hx : a.eval p = .agg x.list.toArray) (hy : a.eval q = .agg y.list.toArray) (hb : decide (x = y) = b) (h : wpList Try.prog ops Q rest (a.put o.dst (.bool b)) w) : wpList Try.prog ops Q (o :: rest) a w := by
  refine wpList_step fun K hK => ?_
  rw [if_pos hw]
  have E := eq_val x y w
  rw [hb] at E
  have hg : Try.prog.eqGuardType Try.prog.depth 35 = false := by kernel_rfl
  unfold Oper.wp execOp
  simp only [ho, hx, hy]
  generalize x.list.toArray = xs at *
  generalize y.list.toArray = ys at *
  simp [run_eqGuard_agg w _ _ _ _ _ _ hg, run_eql_struct, E, Result.andThen, Sem.run_bind]
  exact hK _ _ h

end Go.Proofs.Ytbafgipegekbcaa
