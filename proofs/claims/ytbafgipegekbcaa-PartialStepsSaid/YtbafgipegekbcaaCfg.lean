/- A configuration in memory, and the conditions of its fields. Nothing of the program's text. -/
import Derived.Test.YtbafgipegekbcaaBase
namespace Go.Proofs.Ytbafgipegekbcaa
open Go.RowKit

structure Cfg where
  capacity : Int
  queue : Int
  minDep : Int
  maxDep : Int
  supply : Int
  minBal : Int
  maxBal : Int
  minChurn : Int
  quot : Int
  forced : Int
  unb : Int
  slash : Int
  ring : Int
  epl : Int
  visits : Int
  pays : Int
  parts : Int
  merges : Int
  pnum : Int
  pden : Int

/-- The fields in their order. -/
def Cfg.list (c : Cfg) : List Value := [.int .i64 c.capacity, .int .i64 c.queue, .int .u64 c.minDep, .int .u64 c.maxDep, .int .u64 c.supply, .int .u64 c.minBal, .int .u64 c.maxBal, .int .u64 c.minChurn, .int .u64 c.quot, .int .u64 c.forced, .int .i64 c.unb, .int .i64 c.slash, .int .i64 c.ring, .int .i64 c.epl, .int .i64 c.visits, .int .i64 c.pays, .int .i64 c.parts, .int .i64 c.merges, .int .u64 c.pnum, .int .u64 c.pden]
theorem Cfg.len (c : Cfg) : c.list.length = 20 := rfl

/-- Block b is the configuration. -/
def CfgAt (w : World) (b : Nat) (c : Cfg) : Prop := w.heap[b]? = some (.cells c.list.toArray 26 (0, 0))
theorem CfgAt.new (w : World) (c : Cfg) : CfgAt (w.alloc (.cells c.list.toArray 26)) w.heap.size c := heap_alloc_new w _
theorem CfgAt.below {w w' : World} {b : Nat} {c : Cfg} (h : CfgAt w b c) (hb : Below w.heap.size w w') : CfgAt w' b c := (hb.block b (Array.getElem?_eq_some_iff.1 h).1).trans h
theorem CfgAt.lt {w : World} {b : Nat} {c : Cfg} (h : CfgAt w b c) : b < w.heap.size := (Array.getElem?_eq_some_iff.1 h).1
theorem CfgAt.cell {w : World} {b : Nat} {c : Cfg} (h : CfgAt w b c) (i : Nat) : w.cell? ⟨b, i, none⟩ = c.list[i]? := by
  rw [cell_of_row w b i _ _ (0, 0) h]; simp

theorem CfgAt.c0 {w : World} {b : Nat} {c : Cfg} (h : CfgAt w b c) : w.cell? ⟨b, 0, none⟩ = some (.int .i64 c.capacity) := (h.cell 0).trans rfl
theorem CfgAt.c1 {w : World} {b : Nat} {c : Cfg} (h : CfgAt w b c) : w.cell? ⟨b, 1, none⟩ = some (.int .i64 c.queue) := (h.cell 1).trans rfl
theorem CfgAt.c2 {w : World} {b : Nat} {c : Cfg} (h : CfgAt w b c) : w.cell? ⟨b, 2, none⟩ = some (.int .u64 c.minDep) := (h.cell 2).trans rfl
theorem CfgAt.c3 {w : World} {b : Nat} {c : Cfg} (h : CfgAt w b c) : w.cell? ⟨b, 3, none⟩ = some (.int .u64 c.maxDep) := (h.cell 3).trans rfl
theorem CfgAt.c4 {w : World} {b : Nat} {c : Cfg} (h : CfgAt w b c) : w.cell? ⟨b, 4, none⟩ = some (.int .u64 c.supply) := (h.cell 4).trans rfl
theorem CfgAt.c5 {w : World} {b : Nat} {c : Cfg} (h : CfgAt w b c) : w.cell? ⟨b, 5, none⟩ = some (.int .u64 c.minBal) := (h.cell 5).trans rfl
theorem CfgAt.c6 {w : World} {b : Nat} {c : Cfg} (h : CfgAt w b c) : w.cell? ⟨b, 6, none⟩ = some (.int .u64 c.maxBal) := (h.cell 6).trans rfl
theorem CfgAt.c7 {w : World} {b : Nat} {c : Cfg} (h : CfgAt w b c) : w.cell? ⟨b, 7, none⟩ = some (.int .u64 c.minChurn) := (h.cell 7).trans rfl
theorem CfgAt.c8 {w : World} {b : Nat} {c : Cfg} (h : CfgAt w b c) : w.cell? ⟨b, 8, none⟩ = some (.int .u64 c.quot) := (h.cell 8).trans rfl
theorem CfgAt.c9 {w : World} {b : Nat} {c : Cfg} (h : CfgAt w b c) : w.cell? ⟨b, 9, none⟩ = some (.int .u64 c.forced) := (h.cell 9).trans rfl
theorem CfgAt.c10 {w : World} {b : Nat} {c : Cfg} (h : CfgAt w b c) : w.cell? ⟨b, 10, none⟩ = some (.int .i64 c.unb) := (h.cell 10).trans rfl
theorem CfgAt.c11 {w : World} {b : Nat} {c : Cfg} (h : CfgAt w b c) : w.cell? ⟨b, 11, none⟩ = some (.int .i64 c.slash) := (h.cell 11).trans rfl
theorem CfgAt.c12 {w : World} {b : Nat} {c : Cfg} (h : CfgAt w b c) : w.cell? ⟨b, 12, none⟩ = some (.int .i64 c.ring) := (h.cell 12).trans rfl
theorem CfgAt.c13 {w : World} {b : Nat} {c : Cfg} (h : CfgAt w b c) : w.cell? ⟨b, 13, none⟩ = some (.int .i64 c.epl) := (h.cell 13).trans rfl
theorem CfgAt.c14 {w : World} {b : Nat} {c : Cfg} (h : CfgAt w b c) : w.cell? ⟨b, 14, none⟩ = some (.int .i64 c.visits) := (h.cell 14).trans rfl
theorem CfgAt.c15 {w : World} {b : Nat} {c : Cfg} (h : CfgAt w b c) : w.cell? ⟨b, 15, none⟩ = some (.int .i64 c.pays) := (h.cell 15).trans rfl
theorem CfgAt.c16 {w : World} {b : Nat} {c : Cfg} (h : CfgAt w b c) : w.cell? ⟨b, 16, none⟩ = some (.int .i64 c.parts) := (h.cell 16).trans rfl
theorem CfgAt.c17 {w : World} {b : Nat} {c : Cfg} (h : CfgAt w b c) : w.cell? ⟨b, 17, none⟩ = some (.int .i64 c.merges) := (h.cell 17).trans rfl
theorem CfgAt.c18 {w : World} {b : Nat} {c : Cfg} (h : CfgAt w b c) : w.cell? ⟨b, 18, none⟩ = some (.int .u64 c.pnum) := (h.cell 18).trans rfl
theorem CfgAt.c19 {w : World} {b : Nat} {c : Cfg} (h : CfgAt w b c) : w.cell? ⟨b, 19, none⟩ = some (.int .u64 c.pden) := (h.cell 19).trans rfl

/-- The configuration's cells, each by itself. -/
abbrev CfgCells (w : World) (b : Nat) (c : Cfg) : Prop :=
  w.cell? ⟨b, 0, none⟩ = some (.int .i64 c.capacity) ∧ w.cell? ⟨b, 1, none⟩ = some (.int .i64 c.queue) ∧ w.cell? ⟨b, 2, none⟩ = some (.int .u64 c.minDep) ∧ w.cell? ⟨b, 3, none⟩ = some (.int .u64 c.maxDep) ∧ w.cell? ⟨b, 4, none⟩ = some (.int .u64 c.supply) ∧ w.cell? ⟨b, 5, none⟩ = some (.int .u64 c.minBal) ∧ w.cell? ⟨b, 6, none⟩ = some (.int .u64 c.maxBal) ∧ w.cell? ⟨b, 7, none⟩ = some (.int .u64 c.minChurn) ∧ w.cell? ⟨b, 8, none⟩ = some (.int .u64 c.quot) ∧ w.cell? ⟨b, 9, none⟩ = some (.int .u64 c.forced) ∧ w.cell? ⟨b, 10, none⟩ = some (.int .i64 c.unb) ∧ w.cell? ⟨b, 11, none⟩ = some (.int .i64 c.slash) ∧ w.cell? ⟨b, 12, none⟩ = some (.int .i64 c.ring) ∧ w.cell? ⟨b, 13, none⟩ = some (.int .i64 c.epl) ∧ w.cell? ⟨b, 14, none⟩ = some (.int .i64 c.visits) ∧ w.cell? ⟨b, 15, none⟩ = some (.int .i64 c.pays) ∧ w.cell? ⟨b, 16, none⟩ = some (.int .i64 c.parts) ∧ w.cell? ⟨b, 17, none⟩ = some (.int .i64 c.merges) ∧ w.cell? ⟨b, 18, none⟩ = some (.int .u64 c.pnum) ∧ w.cell? ⟨b, 19, none⟩ = some (.int .u64 c.pden)
theorem CfgAt.cells {w : World} {b : Nat} {c : Cfg} (h : CfgAt w b c) : CfgCells w b c := ⟨h.c0, h.c1, h.c2, h.c3, h.c4, h.c5, h.c6, h.c7, h.c8, h.c9, h.c10, h.c11, h.c12, h.c13, h.c14, h.c15, h.c16, h.c17, h.c18, h.c19⟩


/-- The conditions of the fields. -/
structure Cfg.Ok (c : Cfg) : Prop where
  h1 : 1 ≤ c.capacity ∧ c.capacity ≤ 4096
  h2 : 1 ≤ c.queue ∧ c.queue ≤ 4096
  h3 : 1 ≤ c.minDep
  h4 : c.minDep ≤ c.maxDep
  h5 : c.maxDep ≤ c.supply ∧ c.supply ≤ 1152921504606846976
  h6 : 1 ≤ c.minBal ∧ c.minBal ≤ c.minDep
  h7 : c.maxDep ≤ c.maxBal ∧ c.maxBal ≤ c.supply
  h8 : 1 ≤ c.minChurn ∧ c.minChurn ≤ 1152921504606846976
  h9 : 1 ≤ c.quot
  h10 : c.forced ≤ 1152921504606846976
  h11 : 1 ≤ c.unb ∧ c.unb ≤ 1048576
  h12 : c.unb < c.slash ∧ c.slash ≤ 1048576
  h13 : 1 ≤ c.ring ∧ c.ring ≤ 4096
  h14 : 1 ≤ c.epl ∧ c.epl ≤ 4096
  h15 : 1 ≤ c.visits ∧ c.visits ≤ 4096
  h16 : 1 ≤ c.pays ∧ c.pays ≤ 4096
  h17 : 0 ≤ c.parts ∧ c.parts < c.visits ∧ c.parts < c.pays
  h18 : 0 ≤ c.merges ∧ c.merges ≤ 4096
  h19 : c.pnum ≤ c.pden
  h20 : 1 ≤ c.pden ∧ c.pden ≤ 4294967296

end Go.Proofs.Ytbafgipegekbcaa
