/- A validator as a struct in memory. Nothing of the program's text. -/
import Derived.Test.YtbafgipegekbcaaNb
import Derived.Test.YtbafgipegekbcaaCfgC
namespace Go.Proofs.Ytbafgipegekbcaa
open Go.RowKit
set_option linter.unusedVariables false

structure Val where
  bal : Int
  st : Int
  sl : Bool
  req : Int
  ex : Int
  wd : Int
  dl : Int
deriving DecidableEq

/-- The fields in their order. -/
def Val.list (v : Val) : List Value := [.int .u64 v.bal, .int .i64 v.st, .bool v.sl, .int .i64 v.req, .int .i64 v.ex, .int .i64 v.wd, .int .i64 v.dl]
theorem Val.len (v : Val) : v.list.length = 7 := rfl
theorem Val.one (v : Val) : ∀ x ∈ v.list, x.oneCell' = true := by
  intro x hx
  simp only [Val.list, List.mem_cons, List.not_mem_nil, or_false] at hx
  rcases hx with h | h | h | h | h | h | h <;> (rw [h]; rfl)
theorem Val.oneA (v : Val) : v.list.toArray.all (·.oneCell') = true := all_oneCell_toArray v.one
theorem Val.info (v : Val) : (Try.prog.info? 35).map (·.size) = some v.list.toArray.size := by
  show _ = some 7
  kernel_rfl
theorem Val.infoL (v : Val) : (Try.prog.info? 35).map (·.size) = some v.list.length := by
  show _ = some 7
  kernel_rfl
/-- The balance fits. -/
def Val.Ok (v : Val) : Prop := 0 ≤ v.bal ∧ v.bal ≤ 18446744073709551615
/-- The zero. -/
def Val.zero : Val := ⟨0, 0, false, 0, 0, 0, 0⟩

/-- Block b is the validator. -/
def ValAt (w : World) (b : Nat) (v : Val) : Prop := Nb w b (.cells v.list.toArray 35 (0, 0))
theorem ValAt.c0 {w : World} {b : Nat} {v : Val} (h : ValAt w b v) : w.cell? ⟨b, 0, none⟩ = some (.int .u64 v.bal) := h.cell.trans rfl
theorem ValAt.c1 {w : World} {b : Nat} {v : Val} (h : ValAt w b v) : w.cell? ⟨b, 1, none⟩ = some (.int .i64 v.st) := h.cell.trans rfl
theorem ValAt.c2 {w : World} {b : Nat} {v : Val} (h : ValAt w b v) : w.cell? ⟨b, 2, none⟩ = some (.bool v.sl) := h.cell.trans rfl
theorem ValAt.call {w w' : World} {b : Nat} {v : Val} (h : ValAt w b v) (hb : Below w.heap.size w w') : ValAt w' b v := Nb.call h hb
theorem ValAt.alloc {w : World} {b : Nat} {v : Val} (h : ValAt w b v) (o : Obj) : ValAt (w.alloc o) b v := Nb.alloc h
theorem ValAt.new (w : World) (v : Val) : ValAt (w.alloc (.cells v.list.toArray 35)) w.heap.size v := Nb.new w _
theorem ValAt.lt {w : World} {b : Nat} {v : Val} (h : ValAt w b v) : b < w.heap.size := Nb.lt h
theorem CfgAt.call {w w' : World} {b : Nat} {c : Cfg} (h : CfgAt w b c) (hb : Below w.heap.size w w') : CfgAt w' b c := h.below hb
theorem CfgAt.alloc {w : World} {b : Nat} {c : Cfg} (h : CfgAt w b c) (o : Obj) : CfgAt (w.alloc o) b c := h.below ((Below.refl _ _).alloc (Nat.le_refl _) _)

/-- Two validators and a configuration, boxed one behind the other at p. -/
structure Vvc (b p : Nat) (w0 w : World) (x y : Val) (c : Cfg) : Prop where
  hx : ValAt w p x
  hy : ValAt w (p + 1) y
  hc : CfgAt w (p + 2) c
  hb : Below b w0 w
  l1 : b ≤ p
theorem Vvc.call {b p : Nat} {w0 w w' : World} {x y : Val} {c : Cfg} (h : Vvc b p w0 w x y c) (hb : Below w.heap.size w w') : Vvc b p w0 w' x y c :=
  ⟨h.hx.call hb, h.hy.call hb, h.hc.call hb, h.hb.trans (hb.mono (by have := h.hx.lt; have := h.l1; omega)), h.l1⟩
theorem Vvc.alloc {b p : Nat} {w0 w : World} {x y : Val} {c : Cfg} (h : Vvc b p w0 w x y c) (o : Obj) : Vvc b p w0 (w.alloc o) x y c := h.call ((Below.refl _ _).alloc (Nat.le_refl _) _)
theorem Vvc.new (w : World) (x y : Val) (c : Cfg) : Vvc w.heap.size w.heap.size w (((w.alloc (.cells x.list.toArray 35)).alloc (.cells y.list.toArray 35)).alloc (.cells c.list.toArray 26)) x y c := by
  have h1 := ValAt.new w x
  have h2 := ValAt.new (w.alloc (.cells x.list.toArray 35)) y
  have h3 := CfgAt.new ((w.alloc (.cells x.list.toArray 35)).alloc (.cells y.list.toArray 35)) c
  have e1 : (w.alloc (.cells x.list.toArray 35)).heap.size = w.heap.size + 1 := by simp
  have e2 : ((w.alloc (.cells x.list.toArray 35)).alloc (.cells y.list.toArray 35)).heap.size = w.heap.size + 2 := by simp
  rw [e1] at h2
  rw [e2] at h3
  have hB1 := (Below.refl w.heap.size w).alloc (Nat.le_refl _) (.cells x.list.toArray 35)
  have hB2 := hB1.alloc hB1.size (.cells y.list.toArray 35)
  exact ⟨(h1.alloc _).alloc _, h2.alloc _, h3, hB2.alloc hB2.size _, Nat.le_refl _⟩

/-- A whole validator is read out of its block. -/
theorem wpList_load_val {ops : Array Oper} {rest : List Oper} {o : Oper} {a : Act} {w : World} {Q : Exit → Act → World → Prop} {b : Nat} {v : Val} (x : Operand) (hgd : Region.wanted o (yielded ops a.tmps) = true) (ho : o.op = .load 35 x)
    (hx : a.eval x = .pointer (some ⟨b, 0, none⟩)) (hc : ValAt w b v) (h : wpList Try.prog ops Q rest (a.put o.dst (.agg v.list.toArray)) w) : wpList Try.prog ops Q (o :: rest) a w :=
  wpList_load_nb 35 x hgd ho hx hc _ Try.underlying35 rfl v.info h
theorem wpList_load_cf {ops : Array Oper} {rest : List Oper} {o : Oper} {a : Act} {w : World} {Q : Exit → Act → World → Prop} {b : Nat} {c : Cfg} (x : Operand) (hgd : Region.wanted o (yielded ops a.tmps) = true) (ho : o.op = .load 26 x)
    (hx : a.eval x = .pointer (some ⟨b, 0, none⟩)) (hc : CfgAt w b c) (h : wpList Try.prog ops Q rest (a.put o.dst (.agg c.list.toArray)) w) : wpList Try.prog ops Q (o :: rest) a w :=
  wpList_load_nb 26 x hgd ho hx hc _ Try.underlying26 rfl (by show _ = some 20; kernel_rfl) h

end Go.Proofs.Ytbafgipegekbcaa
