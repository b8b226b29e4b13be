/- Chapter 17: rows that are alike. -/
import Derived.Test.YtbafgipegekbcaaPtK
namespace Go.Proofs.Ytbafgipegekbcaa
open Go.RowKit Go.Maps
set_option linter.unusedSimpArgs false
set_option linter.unusedVariables false
set_option maxRecDepth 20000

theorem eq_pay (v u : Pay) (w : World) : (Op.equalIn 10000 37 (.agg v.list.toArray) (.agg u.list.toArray)).run Try.prog w = .ok (decide (v = u)) w := by
  have hS : Try.prog.underlying 37 = some (.struct (Try.prog.fieldsOf 37)) := by kernel_rfl
  rw [show (10000 : Nat) = 9999 + 1 from rfl, run_equalIn_agg w 9999 37 _ _ hS (by kernel_rfl)]
  simp only [Program.fieldsOf, Try.underlying37]
  obtain ⟨a0, a1, a2⟩ := v
  obtain ⟨b0, b1, b2⟩ := u
  simp only [Pay.list]
  go_simp
  by_cases h0 : a0 = b0 <;> by_cases h1 : a1 = b1 <;> by_cases h2 : a2 = b2 <;> simp [h0, h1, h2]

/-- '!=' at two payments, in a region that draws its order. -/
theorem calm_nep {ops : Array Oper} {C : World → Prop} {Q : Act → Prop} {a : Act} {o : Oper} {rest : List Oper} (x y : Pay) (b : Bool) (p q : Operand) (ty : TypeId) (hw : Region.wanted o (yielded ops a.tmps) = true) (ho : o.op = .binOp .neq 37 p q ty)
    (hx : a.eval p = .agg x.list.toArray) (hy : a.eval q = .agg y.list.toArray) (hb : decide (x = y) = b) (h : wpQuiet Try.prog ops C Q rest (a.put o.dst (.bool (!b)))) : wpQuiet Try.prog ops C Q (o :: rest) a := by
  refine calm_val hw (fun w hC => ?_) h
  have E := eq_pay x y w
  rw [hb] at E
  have hg : Try.prog.eqGuardType Try.prog.depth 37 = false := by kernel_rfl
  unfold execOp
  simp only [ho, hx, hy]
  generalize x.list.toArray = xs at *
  generalize y.list.toArray = ys at *
  simp [run_eqGuard_agg w _ _ _ _ _ _ hg, run_neq_struct, E, Result.andThen, Sem.run_bind]

set_option maxHeartbeats 4000000 in
theorem same_any (vs : List Val) (A B : Option Addr) (n cap cap' : Nat) (w : World) (hA : Row Val.list w A n vs) (hB : Row Val.list w B n vs) (hn : n ≤ 100000) :
    Calls Try.prog 11 #[.slice A n cap, .slice B n cap'] w fun e w' => e = .returned (.bool true) ∧ Below w.heap.size w w' := by
  have HA := Lib.hid hA
  have HBr := Lib.hid hB
  clear hA hB
  go_enter Try.func11, Try.ntmps11
  go_wp2_with fail
  go_loopg [5] n (fun kk i wr => ∃ j : Nat, j + kk = n ∧ i = .int .i64 j ∧ Hid (Below w.heap.size w wr))
  case atStart => exact ⟨0, by omega, rfl, Below.refl _ _⟩
  case round =>
    obtain ⟨j, hjk, rfl, HB⟩ := hrel
    have HJ := Lib.hid hjk
    clear hjk
    by_cases hlt : j < n
    · have hjv : j < vs.length := by have := HA.out.1; omega
      obtain ⟨ga, oa, rfl, hga, hra⟩ := row_some HA.out (by omega)
      obtain ⟨gb, ob, rfl, hgb, hrb⟩ := row_some HBr.out (by omega)
      have RA := Lib.hid (range_call (Row.elem Val.len hra j hjv) hga HB.out)
      have RB := Lib.hid (range_call (Row.elem Val.len hrb j hjv) hgb HB.out)
      generalize vs[j] = x at *
      have hj1 : (j : Int) < (n : Int) := by omega
      have hj0 : (0 : Int) ≤ (j : Int) := by omega
      clear hra hrb hga hgb
      go_upto_region 6 with fail
      refine calm_region (fun w' => Below w.heap.size w w' ∧ w'.rangeAt ga (oa + j * 7) x.list ∧ w'.rangeAt gb (ob + j * 7) x.list) (by kernel_rfl) (by kernel_rfl) ⟨below_drewN HB.out 1, RA.out, RB.out⟩ ?_
      clear RA RB HB
      refine calm_val (v := ?v0) (by rfl) ?y0 ?z0
      case y0 => intro w hw; go_simp; (try with_reducible rfl)
      try simp only [Act.put, List.getElem_toArray, List.getElem_cons_succ, List.getElem_cons_zero, List.setIfInBounds_toArray, List.set_cons_zero, List.set_cons_succ]
      refine calm_val (v := ?v1) (by rfl) ?y1 ?z1
      case y1 => intro w hw; go_simp; (try with_reducible rfl)
      try simp only [Act.put, List.getElem_toArray, List.getElem_cons_succ, List.getElem_cons_zero, List.setIfInBounds_toArray, List.set_cons_zero, List.set_cons_succ]
      refine calm_val (v := ?v2) (by rfl) ?y2 ?z2
      case y2 => intro w hw; go_simp; (try with_reducible rfl)
      try simp only [Act.put, List.getElem_toArray, List.getElem_cons_succ, List.getElem_cons_zero, List.setIfInBounds_toArray, List.set_cons_zero, List.set_cons_succ]
      refine calm_part 35 (.tmp 19) (by rfl) rfl rfl (fun w hw => hw.2.1) _ Try.underlying35 rfl x.infoL ?_
      try simp only [Act.put, List.getElem_toArray, List.getElem_cons_succ, List.getElem_cons_zero, List.setIfInBounds_toArray, List.set_cons_zero, List.set_cons_succ]
      refine calm_val (v := ?v4) (by rfl) ?y4 ?z4
      case y4 => intro w hw; go_simp; (try with_reducible rfl)
      try simp only [Act.put, List.getElem_toArray, List.getElem_cons_succ, List.getElem_cons_zero, List.setIfInBounds_toArray, List.set_cons_zero, List.set_cons_succ]
      refine calm_val (v := ?v5) (by rfl) ?y5 ?z5
      case y5 => intro w hw; go_simp; (try with_reducible rfl)
      try simp only [Act.put, List.getElem_toArray, List.getElem_cons_succ, List.getElem_cons_zero, List.setIfInBounds_toArray, List.set_cons_zero, List.set_cons_succ]
      refine calm_val (v := ?v6) (by rfl) ?y6 ?z6
      case y6 => intro w hw; go_simp; (try with_reducible rfl)
      try simp only [Act.put, List.getElem_toArray, List.getElem_cons_succ, List.getElem_cons_zero, List.setIfInBounds_toArray, List.set_cons_zero, List.set_cons_succ]
      refine calm_part 35 (.tmp 23) (by rfl) rfl rfl (fun w hw => hw.2.2) _ Try.underlying35 rfl x.infoL ?_
      try simp only [Act.put, List.getElem_toArray, List.getElem_cons_succ, List.getElem_cons_zero, List.setIfInBounds_toArray, List.set_cons_zero, List.set_cons_succ]
      refine calm_nev x x true (.tmp 20) (.tmp 24) _ (by rfl) rfl rfl rfl (by simp) ?_
      try simp only [Act.put, List.getElem_toArray, List.getElem_cons_succ, List.getElem_cons_zero, List.setIfInBounds_toArray, List.set_cons_zero, List.set_cons_succ]
      refine wpQuiet_nil ?_
      intro w6 hC6
      have HB2 := Lib.hid hC6.1
      clear hC6
      go_wp2_with fail
      go_roundg (n - (j + 1))
      case measure => have := HJ.out; omega
      case rel => exact ⟨j + 1, by have := HJ.out; omega, by go_num, HB2⟩
    · obtain rfl : j = n := by have := HJ.out; omega
      go_wp2_with fail
      go_ret
      exact ⟨rfl, HB.out⟩

set_option maxHeartbeats 4000000 in
theorem eqp_any (vs : List Pay) (A B : Option Addr) (n cap cap' : Nat) (w : World) (hA : Row Pay.list w A n vs) (hB : Row Pay.list w B n vs) (hn : n ≤ 100000) :
    Calls Try.prog 12 #[.slice A n cap, .slice B n cap'] w fun e w' => e = .returned (.bool true) ∧ Below w.heap.size w w' := by
  have HA := Lib.hid hA
  have HBr := Lib.hid hB
  clear hA hB
  go_enter Try.func12, Try.ntmps12
  go_wp2_with fail
  go_loopg [13] n (fun kk i wr => ∃ j : Nat, j + kk = n ∧ i = .int .i64 j ∧ Hid (Below w.heap.size w wr))
  case atStart => exact ⟨0, by omega, rfl, Below.refl _ _⟩
  case round =>
    obtain ⟨j, hjk, rfl, HB⟩ := hrel
    have HJ := Lib.hid hjk
    clear hjk
    by_cases hlt : j < n
    · have hjv : j < vs.length := by have := HA.out.1; omega
      obtain ⟨ga, oa, rfl, hga, hra⟩ := row_some HA.out (by omega)
      obtain ⟨gb, ob, rfl, hgb, hrb⟩ := row_some HBr.out (by omega)
      have RA := Lib.hid (range_call (Row.elem Pay.len hra j hjv) hga HB.out)
      have RB := Lib.hid (range_call (Row.elem Pay.len hrb j hjv) hgb HB.out)
      generalize vs[j] = x at *
      have hj1 : (j : Int) < (n : Int) := by omega
      have hj0 : (0 : Int) ≤ (j : Int) := by omega
      clear hra hrb hga hgb
      go_upto_region 6 with fail
      refine calm_region (fun w' => Below w.heap.size w w' ∧ w'.rangeAt ga (oa + j * 3) x.list ∧ w'.rangeAt gb (ob + j * 3) x.list) (by kernel_rfl) (by kernel_rfl) ⟨below_drewN HB.out 1, RA.out, RB.out⟩ ?_
      clear RA RB HB
      refine calm_val (v := ?v0) (by rfl) ?y0 ?z0
      case y0 => intro w hw; go_simp; (try with_reducible rfl)
      try simp only [Act.put, List.getElem_toArray, List.getElem_cons_succ, List.getElem_cons_zero, List.setIfInBounds_toArray, List.set_cons_zero, List.set_cons_succ]
      refine calm_val (v := ?v1) (by rfl) ?y1 ?z1
      case y1 => intro w hw; go_simp; (try with_reducible rfl)
      try simp only [Act.put, List.getElem_toArray, List.getElem_cons_succ, List.getElem_cons_zero, List.setIfInBounds_toArray, List.set_cons_zero, List.set_cons_succ]
      refine calm_val (v := ?v2) (by rfl) ?y2 ?z2
      case y2 => intro w hw; go_simp; (try with_reducible rfl)
      try simp only [Act.put, List.getElem_toArray, List.getElem_cons_succ, List.getElem_cons_zero, List.setIfInBounds_toArray, List.set_cons_zero, List.set_cons_succ]
      refine calm_part 37 (.tmp 18) (by rfl) rfl rfl (fun w hw => hw.2.1) _ Try.underlying37 rfl x.infoL ?_
      try simp only [Act.put, List.getElem_toArray, List.getElem_cons_succ, List.getElem_cons_zero, List.setIfInBounds_toArray, List.set_cons_zero, List.set_cons_succ]
      refine calm_val (v := ?v4) (by rfl) ?y4 ?z4
      case y4 => intro w hw; go_simp; (try with_reducible rfl)
      try simp only [Act.put, List.getElem_toArray, List.getElem_cons_succ, List.getElem_cons_zero, List.setIfInBounds_toArray, List.set_cons_zero, List.set_cons_succ]
      refine calm_val (v := ?v5) (by rfl) ?y5 ?z5
      case y5 => intro w hw; go_simp; (try with_reducible rfl)
      try simp only [Act.put, List.getElem_toArray, List.getElem_cons_succ, List.getElem_cons_zero, List.setIfInBounds_toArray, List.set_cons_zero, List.set_cons_succ]
      refine calm_val (v := ?v6) (by rfl) ?y6 ?z6
      case y6 => intro w hw; go_simp; (try with_reducible rfl)
      try simp only [Act.put, List.getElem_toArray, List.getElem_cons_succ, List.getElem_cons_zero, List.setIfInBounds_toArray, List.set_cons_zero, List.set_cons_succ]
      refine calm_part 37 (.tmp 22) (by rfl) rfl rfl (fun w hw => hw.2.2) _ Try.underlying37 rfl x.infoL ?_
      try simp only [Act.put, List.getElem_toArray, List.getElem_cons_succ, List.getElem_cons_zero, List.setIfInBounds_toArray, List.set_cons_zero, List.set_cons_succ]
      refine calm_nep x x true (.tmp 19) (.tmp 23) _ (by rfl) rfl rfl rfl (by simp) ?_
      try simp only [Act.put, List.getElem_toArray, List.getElem_cons_succ, List.getElem_cons_zero, List.setIfInBounds_toArray, List.set_cons_zero, List.set_cons_succ]
      refine wpQuiet_nil ?_
      intro w6 hC6
      have HB2 := Lib.hid hC6.1
      clear hC6
      go_wp2_with fail
      go_roundg (n - (j + 1))
      case measure => have := HJ.out; omega
      case rel => exact ⟨j + 1, by have := HJ.out; omega, by go_num, HB2⟩
    · obtain rfl : j = n := by have := HJ.out; omega
      go_wp2_with fail
      go_ret
      exact ⟨rfl, HB.out⟩

end Go.Proofs.Ytbafgipegekbcaa
