/- Chapter 18: the walk of DeadlineRises. -/
import Derived.Test.YtmihnoiofbfbhaaDlQ
import Derived.Laws.CopyOwn
namespace Go.Proofs.Ytmihnoiofbfbhaa
open Go.RowKit
set_option linter.unusedSimpArgs false
set_option maxRecDepth 20000

theorem wp_then_of {P : Program} {cd : Code} {Q : Exit → Act → World → Prop} {a : Act} {w : World} (R : Act → Act → World → Prop) (h1 : cd.wp P (fun e a' w' => e = .normal ∧ R a a' w') a w) (h2 : ∀ a' w', R a a' w' → Q .normal a' w') : cd.wp P Q a w :=
  Code.wp_mono (fun e a w h => by obtain ⟨he, hr⟩ := h; subst he; exact h2 _ _ hr) h1

/-- Block k holds o. -/
def Nb (w : World) (k : Nat) (o : Obj) : Prop := w.heap[k]? = some o
theorem Nb.lt {w : World} {k : Nat} {o : Obj} (h : Nb w k o) : k < w.heap.size := (Array.getElem?_eq_some_iff.1 h).1
theorem Nb.below {w w' : World} {k : Nat} {o : Obj} (h : Nb w k o) (hb : Below w.heap.size w w') : Nb w' k o := (hb.block k h.lt).trans h
theorem Nb.alloc {w : World} {k : Nat} {o o' : Obj} (h : Nb w k o) : Nb (w.alloc o') k o := h.below ((Below.refl _ _).alloc (Nat.le_refl _) _)
theorem Nb.new (w : World) (o : Obj) : Nb (w.alloc o) w.heap.size o := heap_alloc_new w o
theorem Nb.other {w : World} {k g : Nat} {o : Obj} {cs : Array Value} (h : Nb w k o) (hk : k ≠ g) : Nb (w.setRow g cs) k o := (setRow_other w g k cs hk).trans h
theorem Nb.same {w : World} {g : Nat} {old cs : Array Value} {t : TypeId} (h : Nb w g (.cells old t (0, 0))) : Nb (w.setRow g cs) g (.cells cs t (0, 0)) := setRow_heap w g old cs t (0, 0) h
theorem Nb.cell {w : World} {k i : Nat} {cs : Array Value} {t : TypeId} (h : Nb w k (.cells cs t (0, 0))) : w.cell? ⟨k, i, none⟩ = cs[i]? := by
  have h' : w.heap[k]? = some (.cells cs t (0, 0)) := h
  simp [World.cell?, h']

/-- The three arguments of DeadlineRises, boxed one behind the other. -/
structure Rs (b p : Nat) (w0 w : World) (e a wt m0 m1 m2 m3 : Int) (c : Cfg) : Prop where
  hx : Nb w p (.cells #[.int .i64 e, .int .u64 a, .int .u64 wt] 24 (0, 0))
  hm : Nb w (p + 1) (.cells #[.int .u32 m0, .int .u32 m1, .int .u32 m2, .int .u32 m3] 35 (0, 0))
  hc : CfgAt w (p + 2) c
  hb : Below b w0 w
  l1 : b ≤ p
theorem Rs.x0 {b p : Nat} {w0 w : World} {e a wt m0 m1 m2 m3 : Int} {c : Cfg} (h : Rs b p w0 w e a wt m0 m1 m2 m3 c) : w.cell? ⟨p, 0, none⟩ = some (.int .i64 e) := h.hx.cell
theorem Rs.x1 {b p : Nat} {w0 w : World} {e a wt m0 m1 m2 m3 : Int} {c : Cfg} (h : Rs b p w0 w e a wt m0 m1 m2 m3 c) : w.cell? ⟨p, 1, none⟩ = some (.int .u64 a) := h.hx.cell
theorem Rs.x2 {b p : Nat} {w0 w : World} {e a wt m0 m1 m2 m3 : Int} {c : Cfg} (h : Rs b p w0 w e a wt m0 m1 m2 m3 c) : w.cell? ⟨p, 2, none⟩ = some (.int .u64 wt) := h.hx.cell
theorem Rs.next {b p : Nat} {w0 w : World} {e a wt m0 m1 m2 m3 : Int} {c : Cfg} {w' : World} (h : Rs b p w0 w e a wt m0 m1 m2 m3 c) (hb : Below w.heap.size w w') : Rs b p w0 w' e a wt m0 m1 m2 m3 c :=
  ⟨h.hx.below hb, h.hm.below hb, h.hc.below hb, h.hb.trans (hb.mono (by have := h.hc.lt; have := h.l1; omega)), h.l1⟩
theorem Rs.new (w : World) (e a wt m0 m1 m2 m3 : Int) (c : Cfg) : Rs w.heap.size w.heap.size w (((w.alloc (.cells #[.int .i64 e, .int .u64 a, .int .u64 wt] 24)).alloc (.cells #[.int .u32 m0, .int .u32 m1, .int .u32 m2, .int .u32 m3] 35)).alloc (.cells c.list.toArray 26)) e a wt m0 m1 m2 m3 c := by
  have h1 := Nb.new w (.cells #[.int .i64 e, .int .u64 a, .int .u64 wt] 24)
  have h2 := Nb.new (w.alloc (.cells #[.int .i64 e, .int .u64 a, .int .u64 wt] 24)) (.cells #[.int .u32 m0, .int .u32 m1, .int .u32 m2, .int .u32 m3] 35)
  have h3 := CfgAt.new ((w.alloc (.cells #[.int .i64 e, .int .u64 a, .int .u64 wt] 24)).alloc (.cells #[.int .u32 m0, .int .u32 m1, .int .u32 m2, .int .u32 m3] 35)) c
  have e1 : (w.alloc (.cells #[.int .i64 e, .int .u64 a, .int .u64 wt] 24)).heap.size = w.heap.size + 1 := by simp
  have e2 : ((w.alloc (.cells #[.int .i64 e, .int .u64 a, .int .u64 wt] 24)).alloc (.cells #[.int .u32 m0, .int .u32 m1, .int .u32 m2, .int .u32 m3] 35)).heap.size = w.heap.size + 2 := by simp
  rw [e1] at h2
  rw [e2] at h3
  have hB1 := (Below.refl w.heap.size w).alloc (Nat.le_refl _) (.cells #[.int .i64 e, .int .u64 a, .int .u64 wt] 24)
  have hB2 := hB1.alloc hB1.size (.cells #[.int .u32 m0, .int .u32 m1, .int .u32 m2, .int .u32 m3] 35)
  exact ⟨h1.alloc.alloc, h2.alloc, h3, hB2.alloc hB2.size _, Nat.le_refl _⟩

/-- The same, and the copies y (block q7) and d (block q8). -/
structure Ws (b p q7 q8 : Nat) (w0 w : World) (e a wt m0 m1 m2 m3 : Int) (c : Cfg) (y1 y2 : Int) (d : Cfg) : Prop where
  rs : Rs b p w0 w e a wt m0 m1 m2 m3 c
  hy : Nb w q7 (.cells #[.int .i64 e, .int .u64 y1, .int .u64 y2] 24 (0, 0))
  hd : CfgAt w q8 d
  l2 : p + 2 < q7
  l3 : p + 2 < q8
  l4 : q7 ≠ q8
theorem Ws.next {b p q7 q8 : Nat} {w0 w : World} {e a wt m0 m1 m2 m3 : Int} {c : Cfg} {y1 y2 : Int} {d : Cfg} {w' : World} (h : Ws b p q7 q8 w0 w e a wt m0 m1 m2 m3 c y1 y2 d) (hb : Below w.heap.size w w') : Ws b p q7 q8 w0 w' e a wt m0 m1 m2 m3 c y1 y2 d :=
  ⟨h.rs.next hb, h.hy.below hb, h.hd.below hb, h.l2, h.l3, h.l4⟩
theorem Rs.set {b p : Nat} {w0 w : World} {e a wt m0 m1 m2 m3 : Int} {c : Cfg} (h : Rs b p w0 w e a wt m0 m1 m2 m3 c) (g : Nat) (cs : Array Value) (hg : p + 2 < g) : Rs b p w0 (w.setRow g cs) e a wt m0 m1 m2 m3 c :=
  ⟨h.hx.other (by omega), h.hm.other (by omega), (setRow_other w g (p + 2) cs (by omega)).trans h.hc, below_setRow h.hb (by have := h.l1; omega) cs, h.l1⟩
/-- A field of y is written. -/
theorem Ws.setY1 {b p q7 q8 : Nat} {w0 w : World} {e a wt m0 m1 m2 m3 : Int} {c : Cfg} {y1 y2 : Int} {d : Cfg} (h : Ws b p q7 q8 w0 w e a wt m0 m1 m2 m3 c y1 y2 d) (v : Int) : Ws b p q7 q8 w0 (w.setCell ⟨q7, 1, none⟩ (.int .u64 v)) e a wt m0 m1 m2 m3 c v y2 d := by
  rw [setCell_eq_setRow w q7 1 _ _ _ _ h.hy]
  exact ⟨h.rs.set _ _ h.l2, h.hy.same, (setRow_other w q7 q8 _ (Ne.symm h.l4)).trans h.hd, h.l2, h.l3, h.l4⟩
theorem Ws.setY2 {b p q7 q8 : Nat} {w0 w : World} {e a wt m0 m1 m2 m3 : Int} {c : Cfg} {y1 y2 : Int} {d : Cfg} (h : Ws b p q7 q8 w0 w e a wt m0 m1 m2 m3 c y1 y2 d) (v : Int) : Ws b p q7 q8 w0 (w.setCell ⟨q7, 2, none⟩ (.int .u64 v)) e a wt m0 m1 m2 m3 c y1 v d := by
  rw [setCell_eq_setRow w q7 2 _ _ _ _ h.hy]
  exact ⟨h.rs.set _ _ h.l2, h.hy.same, (setRow_other w q7 q8 _ (Ne.symm h.l4)).trans h.hd, h.l2, h.l3, h.l4⟩
/-- A field of d is written. -/
theorem Ws.setD {b p q7 q8 : Nat} {w0 w : World} {e a wt m0 m1 m2 m3 : Int} {c : Cfg} {y1 y2 : Int} {d : Cfg} (h : Ws b p q7 q8 w0 w e a wt m0 m1 m2 m3 c y1 y2 d) (i : Nat) (v : Value) (d' : Cfg) (hd : d'.list.toArray = d.list.toArray.setIfInBounds i v) : Ws b p q7 q8 w0 (w.setCell ⟨q8, i, none⟩ v) e a wt m0 m1 m2 m3 c y1 y2 d' := by
  rw [setCell_eq_setRow w q8 i _ _ _ _ h.hd, ← hd]
  exact ⟨h.rs.set _ _ h.l3, h.hy.other h.l4, Nb.same h.hd, h.l2, h.l3, h.l4⟩

theorem Nb.frozen {w : World} {k i : Nat} {cs : Array Value} {t : TypeId} (h : Nb w k (.cells cs t (0, 0))) : w.frozen? ⟨k, i, none⟩ = false := by
  have h' : w.heap[k]? = some (.cells cs t (0, 0)) := h
  simp [World.frozen?, h']
theorem Nb.range {w : World} {k : Nat} {cs : List Value} {t : TypeId} (h : Nb w k (.cells cs.toArray t (0, 0))) : w.rangeAt k 0 cs := by
  intro j v hj
  have := h.cell (i := j)
  rw [Nat.zero_add, this]
  simpa using hj

end Go.Proofs.Ytmihnoiofbfbhaa
