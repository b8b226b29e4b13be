/- A region that draws its order, whose operations each yield one value in every world of a class and leave a world of the class. Nothing of the program's text. -/
import Derived.Test.YtbafgipegekbcaaNb
import Derived.Deep.Quiet
namespace Go.Proofs.Ytbafgipegekbcaa
open Go.RowKit
set_option linter.unusedSimpArgs false
set_option linter.unusedVariables false

section
variable {P : Program} {ops : Array Oper} {C : World → Prop} {Q : Act → Prop} {a : Act} {o : Oper} {rest : List Oper}

theorem calm_region {id : Nat} {Q : Exit → Act → World → Prop} {a : Act} {w : World} {l : List Oper} (C : World → Prop) (hm : P.follows .mixedOrders = true) (hB : Region.lexB .any l.toArray = true) (hC : C w.drew)
    (h : wpQuiet P l.toArray C (fun a' => ∀ w', C w' → Q .normal a' w') l a) : (Code.region id l.toArray true).wp P Q a w :=
  wp_region_quiet (C := C) hm hB hC (by simpa using h)

theorem calm_skip (hw : Region.wanted o (yielded ops a.tmps) = false) (h : wpQuiet P ops C Q rest (a.put o.dst undef)) : wpQuiet P ops C Q (o :: rest) a := by
  unfold wpQuiet
  rw [hw]
  exact h

theorem calm_val {v : Value} (hw : Region.wanted o (yielded ops a.tmps) = true) (hv : ∀ w, C w → (execOp a.eval o).run P w = .ok (.value v) w) (h : wpQuiet P ops C Q rest (a.put o.dst v)) : wpQuiet P ops C Q (o :: rest) a := by
  unfold wpQuiet
  rw [hw]
  refine ⟨v, fun w hC => ?_, h⟩
  unfold Oper.quietAt
  rw [hv w hC]
  exact ⟨rfl, rfl⟩

theorem calm_call {v : Value} {f : FuncId} {args : Array Value} (hw : Region.wanted o (yielded ops a.tmps) = true) (hf : ∀ w, (execOp a.eval o).run P w = .ok (.enter f args) w)
    (hc : ∀ w, C w → Calls P f args w (fun e w'' => e = .returned v ∧ C w'')) (h : wpQuiet P ops C Q rest (a.put o.dst v)) : wpQuiet P ops C Q (o :: rest) a := by
  unfold wpQuiet
  rw [hw]
  refine ⟨v, fun w hC => ?_, h⟩
  unfold Oper.quietAt
  rw [hf w]
  exact ⟨rfl, hc w hC⟩

/-- A call whose callee answers v whatever the world, and leaves what is older as it was. -/
theorem calm_fn {v : Value} {f : FuncId} {args : Array Value} (hcl : ∀ {w w' : World}, C w → Below w.heap.size w w' → C w') (hc : ∀ w, Calls P f args w (fun e w' => e = .returned v ∧ Below w.heap.size w w'))
    (hw : Region.wanted o (yielded ops a.tmps) = true) (hf : ∀ w, (execOp a.eval o).run P w = .ok (.enter f args) w) (h : wpQuiet P ops C Q rest (a.put o.dst v)) : wpQuiet P ops C Q (o :: rest) a :=
  calm_call hw hf (fun w hC => (hc w).mono fun _ _ h => ⟨h.1, hcl hC h.2⟩) h

/-- .. a callee that does so in every world of the class. -/
theorem calm_fnC {v : Value} {f : FuncId} {args : Array Value} (hcl : ∀ {w w' : World}, C w → Below w.heap.size w w' → C w') (hc : ∀ w, C w → Calls P f args w (fun e w' => e = .returned v ∧ Below w.heap.size w w'))
    (hw : Region.wanted o (yielded ops a.tmps) = true) (hf : ∀ w, (execOp a.eval o).run P w = .ok (.enter f args) w) (h : wpQuiet P ops C Q rest (a.put o.dst v)) : wpQuiet P ops C Q (o :: rest) a :=
  calm_call hw hf (fun w hC => (hc w hC).mono fun _ _ h => ⟨h.1, hcl hC h.2⟩) h

/-- A whole struct out of its block. -/
theorem calm_load {b : Nat} {t : TypeId} {cs : Array Value} (ty : TypeId) (x : Operand) (hw : Region.wanted o (yielded ops a.tmps) = true) (ho : o.op = .load ty x)
    (hx : a.eval x = .pointer (some ⟨b, 0, none⟩)) (hS : ∀ w, C w → Nb w b (.cells cs t (0, 0))) (d : TypeDesc) (hu : P.underlying ty = some d) (hd : d.isRow = true) (hi : (P.info? ty).map (·.size) = some cs.size)
    (h : wpQuiet P ops C Q rest (a.put o.dst (.agg cs))) : wpQuiet P ops C Q (o :: rest) a :=
  calm_val hw (fun w hC => by
    unfold execOp
    simp only [ho, hx, Instr.loadAt, Instr.sureAddr, Sem.run_bind, Sem.run_pure, Result.andThen_ok, load_nb (hS w hC) d hu hd hi]) h

/-- A whole struct out of the middle of a block. -/
theorem calm_part {b off : Nat} {cs : List Value} (ty : TypeId) (x : Operand) (hw : Region.wanted o (yielded ops a.tmps) = true) (ho : o.op = .load ty x)
    (hx : a.eval x = .pointer (some ⟨b, off, none⟩)) (hS : ∀ w, C w → w.rangeAt b off cs) (d : TypeDesc) (hu : P.underlying ty = some d) (hd : d.isRow = true) (hi : (P.info? ty).map (·.size) = some cs.length)
    (h : wpQuiet P ops C Q rest (a.put o.dst (.agg cs.toArray))) : wpQuiet P ops C Q (o :: rest) a :=
  calm_val hw (fun w hC => by
    unfold execOp
    simp only [ho, hx, Instr.loadAt, Instr.sureAddr, Sem.run_bind, Sem.run_pure, Result.andThen_ok, run_loadVar_mid w b off ty cs d (hS w hC) hu hd hi]) h
end

end Go.Proofs.Ytbafgipegekbcaa
