import Derived.Test.YtbafgipegekbcaaCfgC
import Derived.Deep.WholeRow
import Derived.Laws.ResultCell
namespace Go.Proofs.Ytbafgipegekbcaa
open Go.RowKit
/-- The small configuration of the examples. -/
def dflt : Cfg := ⟨16, 8, 16, 64, 1024, 8, 128, 32, 4, 64, 2, 5, 4, 4, 6, 4, 2, 2, 1, 4⟩
theorem dflt_ok : dflt.Ok := by
  constructor <;> simp [dflt]
theorem dflt_one : ∀ v ∈ dflt.list, v.oneCell' = true := by
  intro v hv
  simp only [Cfg.list, List.mem_cons, List.not_mem_nil, or_false] at hv
  rcases hv with h | h | h | h | h | h | h | h | h | h | h | h | h | h | h | h | h | h | h | h <;> (rw [h]; rfl)

/-- A whole struct is stored into the block that was made for it last. -/
theorem wpList_store_new {ops : Array Oper} {rest : List Oper} {o : Oper} {a : Act} {w : World} {Q : Exit → Act → World → Prop} (ty : TypeId) (x y : Operand) (z cs : Array Value) (hgd : o.guard = none) (ho : o.op = .store ty x y)
    (hx : a.eval x = .pointer (some ⟨w.heap.size, 0, none⟩)) (hy : a.eval y = .agg cs) (hi : (Try.prog.info? ty).map (·.size) = some cs.size) (hz : z.size = cs.size) (h1 : cs.all (·.oneCell') = true)
    (h : wpList Try.prog ops Q rest (a.put o.dst undef) (w.alloc (.cells cs ty))) : wpList Try.prog ops Q (o :: rest) a (w.alloc (.cells z ty)) := by
  refine wpList_plain hgd fun K hK => ?_
  unfold Oper.wp execOp
  simp only [ho, hx, hy, Instr.storeAt, Instr.sureAddr, Sem.run_bind, Sem.run_pure, Result.andThen_ok, run_storeVar_new w ty z cs hi hz h1]
  exact hK _ _ h
def CsIs (cs : Array Value) : Prop := #[.int .i64 16, .int .i64 8, .int .u64 16, .int .u64 64, .int .u64 1024, .int .u64 8, .int .u64 128, .int .u64 32, .int .u64 4, .int .u64 64, .int .i64 2, .int .i64 5, .int .i64 4, .int .i64 4, .int .i64 6, .int .i64 4, .int .i64 2, .int .i64 2, .int .u64 1, .int .u64 4] = cs
theorem CsIs.agg {cs : Array Value} (h : Hid (CsIs cs)) : Value.agg #[.int .i64 16, .int .i64 8, .int .u64 16, .int .u64 64, .int .u64 1024, .int .u64 8, .int .u64 128, .int .u64 32, .int .u64 4, .int .u64 64, .int .i64 2, .int .i64 5, .int .i64 4, .int .i64 4, .int .i64 6, .int .i64 4, .int .i64 2, .int .i64 2, .int .u64 1, .int .u64 4] = .agg cs := congrArg _ h.out
def Stopped (p : Prop) : Prop := p
theorem stopped {p : Prop} (h : Stopped p) : p := h
def DfltPost (cs : Array Value) (w : World) (e : Ending) (w' : World) : Prop := e = .returned (.agg cs) ∧ w' = w.alloc (.cells cs 26)
set_option maxHeartbeats 2000000 in
theorem default_aux (w : World) (cs : Array Value) (HY : Hid (CsIs cs)) (HX : Hid (cs.size = 20 ∧ cs.all (·.oneCell') = true ∧ (Try.prog.info? 26).map (·.size) = some cs.size)) : Calls Try.prog 15 #[] w (DfltPost cs w) := by
  go_enter Try.func15, Try.ntmps15
  go_wp2_with (first | (with_reducible show wpList _ _ _ [_] _ (World.alloc _ _); refine stopped ?_) | fail)
  unfold Stopped
  refine wpList_store_new 26 (.tmp 0) (.tmp 1) _ cs rfl rfl rfl (CsIs.agg HY) HX.out.2.2 (by rw [HX.out.1]; rfl) HX.out.2.1 ?_
  go_wp2_with fail
  refine bodyPost_ret (results_cell_row rfl _ _ w.heap.size 26 cs (0, 0) _ rfl (heap_alloc_new w _) Try.underlying26 rfl HX.out.2.2) rfl ?_
  exact ⟨rfl, rfl⟩
theorem dflt_cs : CsIs dflt.list.toArray := rfl
theorem dflt_size : (Try.prog.info? 26).map (·.size) = some dflt.list.toArray.size := by kernel_rfl
theorem default_any (w : World) : Calls Try.prog 15 #[] w fun e w' => e = .returned (.agg dflt.list.toArray) ∧ Below w.heap.size w w' := by
  refine (default_aux w _ dflt_cs ⟨rfl, by simp only [List.all_toArray]; exact List.all_eq_true.2 dflt_one, dflt_size⟩).mono ?_
  rintro e w' ⟨rfl, rfl⟩
  exact ⟨rfl, (Below.refl w.heap.size w).alloc (Nat.le_refl _) _⟩
end Go.Proofs.Ytbafgipegekbcaa
