/- Chapter 18: bounds and its closure, Exit; the reference's Bound. -/
import Derived.Test.YtmihnoiofbfbhaaDlE
namespace Go.Proofs.Ytmihnoiofbfbhaa
open Go.RowKit
set_option linter.unusedSimpArgs false

/-- What the closure of bounds has caught: the epoch, the two weights, the configuration. -/
structure Caught (w : World) (p : Nat) (e a wt : Int) (c : Cfg) : Prop where
  e : w.heap[p]? = some (.cells #[.int .i64 e] 3 (0, 0))
  a : w.heap[p + 1]? = some (.cells #[.int .u64 a] 22 (0, 0))
  wt : w.heap[p + 2]? = some (.cells #[.int .u64 wt] 22 (0, 0))
  c : CfgAt w (p + 3) c

theorem Caught.lt {w : World} {p : Nat} {e a wt : Int} {c : Cfg} (h : Caught w p e a wt c) : p + 3 < w.heap.size := h.c.lt
theorem Caught.below {w w' : World} {p : Nat} {e a wt : Int} {c : Cfg} (h : Caught w p e a wt c) (hb : Below w.heap.size w w') : Caught w' p e a wt c :=
  ⟨(hb.block _ (by have := h.lt; omega)).trans h.e, (hb.block _ (by have := h.lt; omega)).trans h.a, (hb.block _ (by have := h.lt; omega)).trans h.wt, h.c.below hb⟩

set_option maxHeartbeats 400000 in
theorem bounds_any (e a wt : Int) (c : Cfg) (w : World) :
    Calls Try.prog 29 #[.int .i64 e, .int .u64 a, .int .u64 wt, .agg c.list.toArray] w fun en w' =>
      en = .returned (.func (.func 45) #[] #[.pointer (some ⟨w.heap.size + 1, 0, none⟩), .pointer (some ⟨w.heap.size + 2, 0, none⟩), .pointer (some ⟨w.heap.size + 3, 0, none⟩), .pointer (some ⟨w.heap.size, 0, none⟩)]) ∧
      Below w.heap.size w w' ∧ Caught w' w.heap.size e a wt c := by
  have hmf : ∀ (fn : Fn) (first cap : Array Value) (w : World), (Instr.makeFunc fn first cap).run Try.prog w = .ok (.func fn first cap) w := fun _ _ _ _ => rfl
  have hb : Below w.heap.size w ((((w.alloc (.cells #[.int .i64 e] 3)).alloc (.cells #[.int .u64 a] 22)).alloc (.cells #[.int .u64 wt] 22)).alloc (.cells c.list.toArray 26)) :=
    ((((Below.refl _ _).alloc (Nat.le_refl _) _).alloc (by simp) _).alloc (by simp <;> omega) _).alloc (by simp <;> omega) _
  have hc : Caught ((((w.alloc (.cells #[.int .i64 e] 3)).alloc (.cells #[.int .u64 a] 22)).alloc (.cells #[.int .u64 wt] 22)).alloc (.cells c.list.toArray 26)) w.heap.size e a wt c := by
    refine ⟨?_, ?_, ?_, ?_⟩
    · rw [Below.heap_alloc _ _ _ (by simp <;> omega), Below.heap_alloc _ _ _ (by simp <;> omega), Below.heap_alloc _ _ _ (by simp)]
      exact heap_alloc_new w _
    · rw [Below.heap_alloc _ _ _ (by simp <;> omega), Below.heap_alloc _ _ _ (by simp)]
      have := heap_alloc_new (w.alloc (.cells #[.int .i64 e] 3)) (.cells #[.int .u64 a] 22)
      simpa using this
    · rw [Below.heap_alloc _ _ _ (by simp)]
      have := heap_alloc_new ((w.alloc (.cells #[.int .i64 e] 3)).alloc (.cells #[.int .u64 a] 22)) (.cells #[.int .u64 wt] 22)
      simpa using this
    · have := heap_alloc_new (((w.alloc (.cells #[.int .i64 e] 3)).alloc (.cells #[.int .u64 a] 22)).alloc (.cells #[.int .u64 wt] 22)) (.cells c.list.toArray 26)
      unfold CfgAt
      simpa using this
  have HX := Lib.hid (And.intro hb hc)
  clear hb hc
  generalize c.list = cl at *
  go_enter Try.func29, Try.ntmps29
  go_wp2
  go_ret
  exact ⟨rfl, HX.out.1, HX.out.2⟩

end Go.Proofs.Ytmihnoiofbfbhaa
