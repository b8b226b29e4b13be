/- A block of memory by its number; a region in whatever order under an invariant; whole structs read, written, compared. Nothing of the program's text. -/
import Derived.Test.YtbafgipegekbcaaRows
import Derived.Test.YtbafgipegekbcaaBase
import Derived.OrdersHeld
import Derived.Deep.MidRow
import Derived.Deep.RegionHeld
import Derived.Deep.WholeRow
import Derived.Laws.CopyOwn
namespace Go.Proofs.Ytbafgipegekbcaa
open Go.RowKit
set_option linter.unusedSimpArgs false
set_option linter.unusedVariables false

theorem ready_mem {md : Region.Mode} {ops : Array Oper} {listed : Array Bool} {i : Nat} (h : i ∈ Region.ready md ops listed) : i < ops.size ∧ listed.getD i true = false := by
  unfold Region.ready at h
  obtain ⟨h1, h2⟩ := List.mem_filter.1 h
  simp only [Bool.and_eq_true, Bool.not_eq_true'] at h2
  exact ⟨List.mem_range.1 h1, h2.1⟩

theorem ready_after {md : Region.Mode} {ops : Array Oper} {listed : Array Bool} {i : Nat} {o : Oper} (h : i ∈ Region.ready md ops listed) (ho : ops[i]? = some o) : ∀ e ∈ o.after, Region.binds md e = true → listed.getD e.on false = true := by
  unfold Region.ready at h
  obtain ⟨h1, h2⟩ := List.mem_filter.1 h
  simp only [Bool.and_eq_true, ho, Option.map_some, Option.getD_some, Array.all_eq_true_iff_forall_mem, Bool.or_eq_true, Bool.not_eq_true'] at h2
  intro e he hb
  rcases h2.2 e he with h3 | h3
  · rw [hb] at h3; cases h3
  · exact h3

/-- Operation i waits for operation j. -/
def waitsB (md : Region.Mode) (ops : Array Oper) (i j : Nat) : Bool := match ops[i]? with | some o => o.after.any fun e => decide (e.on = j) && Region.binds md e | none => false
theorem ready_waits {md : Region.Mode} {ops : Array Oper} {listed : Array Bool} {i : Nat} (h : i ∈ Region.ready md ops listed) (j : Nat) (hw : waitsB md ops i j = true) : listed.getD j false = true := by
  unfold waitsB at hw
  cases ho : ops[i]? with
  | none => rw [ho] at hw; cases hw
  | some o =>
    rw [ho] at hw
    obtain ⟨k, hk, he⟩ := Array.any_eq_true.1 hw
    simp only [Bool.and_eq_true, decide_eq_true_eq] at he
    rw [← he.1]
    exact ready_after h ho _ (Array.getElem_mem hk) he.2

/-- Every operation waits for earlier ones alone. -/
def backB (ops : Array Oper) : Bool := (List.range ops.size).all fun i => match ops[i]? with | some o => o.after.all fun e => decide (e.on < i) | none => true
theorem backB_at {ops : Array Oper} (h : backB ops = true) : ∀ (i : Nat) (o : Oper), ops[i]? = some o → ∀ e ∈ o.after, e.on < i := by
  intro i o ho e he
  have h1 := List.all_eq_true.1 h i (List.mem_range.2 (Array.getElem?_eq_some_iff.1 ho).1)
  rw [ho] at h1
  simpa using Array.all_eq_true_iff_forall_mem.1 h1 e he

/-- Nothing may come up any more: all has come up. -/
theorem ready_nil {md : Region.Mode} {ops : Array Oper} {listed : Array Bool} (hB : backB ops = true) (h : Region.ready md ops listed = []) :
    ∀ n i, i < n → i < ops.size → listed.getD i true = true := by
  intro n
  induction n with
  | zero => intro i hi; omega
  | succ n ih =>
    intro i hi hs
    cases hl : listed.getD i true with
    | true => rfl
    | false =>
      exfalso
      have : i ∈ Region.ready md ops listed := by
        unfold Region.ready
        refine List.mem_filter.2 ⟨List.mem_range.2 hs, ?_⟩
        simp only [hl, Bool.not_false, Bool.true_and]
        rw [Array.getElem?_eq_getElem hs]
        simp only [Option.map_some, Option.getD_some, Array.all_eq_true_iff_forall_mem, Bool.or_eq_true]
        intro e he
        right
        have hlt := backB_at hB i _ (Array.getElem?_eq_getElem hs) e he
        have ht := ih e.on (by omega) (by omega)
        by_cases hz : e.on < listed.size
        · simpa [hz] using ht
        · exfalso
          have : ¬ i < listed.size := by omega
          simp [this] at hl
      rw [h] at this
      cases this

/-- The number of those that have not come up. -/
def left (listed : Array Bool) : Nat := listed.toList.count false
theorem left_set {listed : Array Bool} {i : Nat} (h : listed.getD i true = false) : left (listed.setIfInBounds i true) + 1 = left listed := by
  obtain ⟨l⟩ := listed
  have hi : i < l.length := by
    rcases Nat.lt_or_ge i l.length with h' | h'
    · exact h'
    · simp [h'] at h
  have hv : l[i] = false := by simpa [hi] using h
  have e1 : l = l.take i ++ l[i] :: l.drop (i + 1) := by rw [List.getElem_cons_drop, List.take_append_drop]
  have e2 : l.set i true = l.take i ++ true :: l.drop (i + 1) := List.set_eq_take_append_cons_drop.trans (by rw [if_pos hi])
  have e3 : left (#[].setIfInBounds i true) = 0 := rfl
  show ((⟨l⟩ : Array Bool).setIfInBounds i true).toList.count false + 1 = l.count false
  rw [Array.toList_setIfInBounds]
  show (l.set i true).count false + 1 = l.count false
  rw [e2]
  conv => rhs; rw [e1]
  rw [hv]
  simp
  omega

/-- WHATEVER ORDER: an invariant of what has come up, the frame and the world. -/
theorem wpAnyH_inv {P : Program} {ops : Array Oper} {Q : Exit → Act → World → Prop} {md : Region.Mode} {S : World → Prop} (I : Array Bool → Act → World → Prop)
    (hb : backB ops = true)
    (hstep : ∀ listed a w, I listed a w → ∀ i, i < ops.size → listed.getD i true = false → i ∈ Region.ready md ops listed → wpOp P ops Q i (fun a' w' => S w' ∧ I (listed.setIfInBounds i true) a' w') a w)
    (hfin : ∀ listed a w, I listed a w → (∀ i, i < ops.size → listed.getD i true = true) → Q .normal a w) :
    ∀ fuel listed a w, I listed a w → left listed ≤ fuel → wpAnyH P md ops Q S fuel listed a w := by
  have hend : ∀ listed a w, I listed a w → Region.ready md ops listed = [] → Q .normal a w := fun listed a w hI hr =>
    hfin listed a w hI (fun i hi => ready_nil hb hr (i + 1) i (by omega) hi)
  intro fuel
  induction fuel with
  | zero =>
    intro listed a w hI hl
    have hr : Region.ready md ops listed = [] := by
      cases hr : Region.ready md ops listed with
      | nil => rfl
      | cons i r =>
        have hm := ready_mem (hr ▸ List.mem_cons_self : i ∈ Region.ready md ops listed)
        have := left_set hm.2
        omega
    exact ⟨hr, hend listed a w hI hr⟩
  | succ fuel ih =>
    intro listed a w hI hl
    refine ⟨hend listed a w hI, fun i hi => ?_⟩
    have hm := ready_mem hi
    refine wpOp_mono (fun a' w' h => ⟨h.1, ih _ a' w' h.2 ?_⟩) (hstep listed a w hI i hm.1 hm.2 hi)
    have := left_set hm.2
    omega

/-- Block k holds o. -/
def Nb (w : World) (k : Nat) (o : Obj) : Prop := w.heap[k]? = some o
theorem Nb.lt {w : World} {k : Nat} {o : Obj} (h : Nb w k o) : k < w.heap.size := (Array.getElem?_eq_some_iff.1 h).1
theorem Nb.below {w w' : World} {k B : Nat} {o : Obj} (h : Nb w k o) (hb : Below B w w') (hk : k < B) : Nb w' k o := (hb.block k hk).trans h
theorem Nb.call {w w' : World} {k : Nat} {o : Obj} (h : Nb w k o) (hb : Below w.heap.size w w') : Nb w' k o := (hb.block k h.lt).trans h
theorem Nb.alloc {w : World} {k : Nat} {o o' : Obj} (h : Nb w k o) : Nb (w.alloc o') k o := h.call ((Below.refl _ _).alloc (Nat.le_refl _) _)
theorem Nb.new (w : World) (o : Obj) : Nb (w.alloc o) w.heap.size o := heap_alloc_new w o
theorem Nb.drewN {w : World} {k n : Nat} {o : Obj} (h : Nb w k o) : Nb (w.drewN n) k o := h
theorem Nb.other {w : World} {k g : Nat} {o : Obj} {cs : Array Value} (h : Nb w k o) (hk : k ≠ g) : Nb (w.setRow g cs) k o := (setRow_other w g k cs hk).trans h
theorem Nb.same {w : World} {g : Nat} {old cs : Array Value} {t : TypeId} (h : Nb w g (.cells old t (0, 0))) : Nb (w.setRow g cs) g (.cells cs t (0, 0)) := setRow_heap w g old cs t (0, 0) h
theorem Nb.set {w : World} {g i : Nat} {cs : Array Value} {t : TypeId} {v : Value} (h : Nb w g (.cells cs t (0, 0))) : w.setCell ⟨g, i, none⟩ v = w.setRow g (cs.setIfInBounds i v) := setCell_eq_setRow w g i _ _ _ _ h
theorem Nb.cell {w : World} {k i : Nat} {cs : Array Value} {t : TypeId} (h : Nb w k (.cells cs t (0, 0))) : w.cell? ⟨k, i, none⟩ = cs[i]? := by
  have h' : w.heap[k]? = some (.cells cs t (0, 0)) := h
  simp [World.cell?, h']
theorem Nb.frozen {w : World} {k i : Nat} {cs : Array Value} {t : TypeId} (h : Nb w k (.cells cs t (0, 0))) : w.frozen? ⟨k, i, none⟩ = false := by
  have h' : w.heap[k]? = some (.cells cs t (0, 0)) := h
  simp [World.frozen?, h']

theorem below_setRow {b : Nat} {w w' : World} (h : Below b w w') {g : Nat} (hg : b ≤ g) (cs : Array Value) : Below b w (w'.setRow g cs) :=
  ⟨h.os, h.tape, h.output, by simpa [World.setRow] using h.size, fun k hk => (setRow_other w' g k cs (by omega)).trans (h.block k hk)⟩

/-- A whole struct is read out of its block, the operation being wanted. -/
theorem wpList_load_nb {P : Program} {ops : Array Oper} {rest : List Oper} {o : Oper} {a : Act} {w : World} {Q : Exit → Act → World → Prop} {b : Nat} {t : TypeId} {cs : Array Value} (ty : TypeId) (x : Operand) (hgd : Region.wanted o (yielded ops a.tmps) = true) (ho : o.op = .load ty x)
    (hx : a.eval x = .pointer (some ⟨b, 0, none⟩)) (hc : Nb w b (.cells cs t (0, 0))) (d : TypeDesc) (hu : P.underlying ty = some d) (hd : d.isRow = true) (hi : (P.info? ty).map (·.size) = some cs.size)
    (h : wpList P ops Q rest (a.put o.dst (.agg cs)) w) : wpList P ops Q (o :: rest) a w :=
  wpList_step fun K hK => by
    rw [if_pos hgd]
    refine wp_load_mid ty x ho b 0 hx cs.toList d (fun j v hj => ?_) hu hd (by simpa using hi) (hK _ _ (by simpa using h))
    rw [Nat.zero_add, hc.cell]
    simpa using hj

/-- A whole struct is written into its block. -/
theorem wpList_store_nb {P : Program} {ops : Array Oper} {rest : List Oper} {o : Oper} {a : Act} {w : World} {Q : Exit → Act → World → Prop} {b : Nat} {t : TypeId} {z : Array Value} (ty : TypeId) (x y : Operand) (cs : Array Value) (hgd : o.guard = none) (ho : o.op = .store ty x y)
    (hx : a.eval x = .pointer (some ⟨b, 0, none⟩)) (hy : a.eval y = .agg cs) (hc : Nb w b (.cells z t (0, 0))) (hi : (P.info? ty).map (·.size) = some cs.size) (hz : z.size = cs.size) (h1 : cs.all (·.oneCell') = true)
    (h : wpList P ops Q rest (a.put o.dst undef) (w.setRow b cs)) : wpList P ops Q (o :: rest) a w := by
  refine wpList_plain hgd fun K hK => ?_
  have hr : (storeVar ty ⟨b, 0, none⟩ (.agg cs)).run P w = .ok () (w.setRow b cs) := run_storeVar_row w b t ty z cs hc hi hz h1
  unfold Oper.wp execOp
  simp only [ho, hx, hy, Instr.storeAt, Instr.sureAddr, Sem.run_bind, Sem.run_pure, Result.andThen_ok, hr]
  exact hK _ _ h

/-- A whole struct is read out of the middle of a block, the operation being wanted. -/
theorem wpList_load_part {P : Program} {ops : Array Oper} {rest : List Oper} {o : Oper} {a : Act} {w : World} {Q : Exit → Act → World → Prop} {b off : Nat} (cs : List Value) (ty : TypeId) (x : Operand) (hgd : Region.wanted o (yielded ops a.tmps) = true) (ho : o.op = .load ty x)
    (hx : a.eval x = .pointer (some ⟨b, off, none⟩)) (hc : w.rangeAt b off cs) (d : TypeDesc) (hu : P.underlying ty = some d) (hd : d.isRow = true) (hi : (P.info? ty).map (·.size) = some cs.length)
    (h : wpList P ops Q rest (a.put o.dst (.agg cs.toArray)) w) : wpList P ops Q (o :: rest) a w :=
  wpList_step fun K hK => by
    rw [if_pos hgd]
    exact wp_load_mid ty x ho b off hx cs d hc hu hd hi (hK _ _ h)

def Halted (p : Prop) : Prop := p
theorem halted {p : Prop} (h : Halted p) : p := h

/-- A whole struct is stored into the block that was made for it last. -/
theorem wpList_store_last {P : Program} {ops : Array Oper} {rest : List Oper} {o : Oper} {a : Act} {w : World} {Q : Exit → Act → World → Prop} {z : Array Value} (ty : TypeId) (x y : Operand) (cs : Array Value) (hgd : o.guard = none) (ho : o.op = .store ty x y)
    (hx : a.eval x = .pointer (some ⟨w.heap.size, 0, none⟩)) (hy : a.eval y = .agg cs) (hi : (P.info? ty).map (·.size) = some cs.size) (hz : z.size = cs.size) (h1 : cs.all (·.oneCell') = true)
    (h : wpList P ops Q rest (a.put o.dst undef) (w.alloc (.cells cs ty))) : wpList P ops Q (o :: rest) a (w.alloc (.cells z ty)) := by
  refine wpList_plain hgd fun K hK => ?_
  have hr : (storeVar ty ⟨w.heap.size, 0, none⟩ (.agg cs)).run P (w.alloc (.cells z ty)) = .ok () (w.alloc (.cells cs ty)) := run_storeVar_new w ty z cs hi hz h1
  unfold Oper.wp execOp
  simp only [ho, hx, hy, Instr.storeAt, Instr.sureAddr, Sem.run_bind, Sem.run_pure, Result.andThen_ok, hr]
  exact hK _ _ h

theorem below_drewN {B : Nat} {w w' : World} (h : Below B w w') (n : Nat) : Below B w (w'.drewN n) := ⟨h.os, h.tape, h.output, h.size, h.block⟩

theorem load_nb {P : Program} {w : World} {b : Nat} {t ty : TypeId} {cs : Array Value} (hc : Nb w b (.cells cs t (0, 0))) (d : TypeDesc) (hu : P.underlying ty = some d) (hd : d.isRow = true) (hi : (P.info? ty).map (·.size) = some cs.size) :
    (loadVar ty ⟨b, 0, none⟩).run P w = .ok (.agg cs) w := by
  have := run_loadVar_mid (P := P) w b 0 ty cs.toList d (fun j v hj => by rw [Nat.zero_add, hc.cell]; simpa using hj) hu hd (by simpa using hi)
  simpa using this

/-- A struct result that lies in memory. -/
theorem results_c1 {P : Program} {fn : Func} {p : Tmp} {ty : TypeId} (h : fn.results = #[.cell p ty]) {tmps : Array Value} {w : World} {b : Nat} {t : TypeId} {cs : Array Value} (hp : tmps.getD p undef = .pointer (some ⟨b, 0, none⟩)) (hc : Nb w b (.cells cs t (0, 0)))
    (d : TypeDesc) (hu : P.underlying ty = some d) (hd : d.isRow = true) (hi : (P.info? ty).map (·.size) = some cs.size) : (results fn tmps).run P w = .ok (.agg cs) w := by
  simp only [results, h]
  simp [Sem.run_bind, Result.andThen, -Array.getD_eq_getD_getElem?, hp, asAddr, load_nb hc d hu hd hi]

/-- Two struct results that lie in memory, and one that does not. -/
theorem results_c2t {P : Program} {fn : Func} {p q u : Tmp} {ty : TypeId} (h : fn.results = #[.cell p ty, .cell q ty, .tmp u]) {tmps : Array Value} {w : World} {b b' : Nat} {t t' : TypeId} {cs cs' : Array Value} (hp : tmps.getD p undef = .pointer (some ⟨b, 0, none⟩)) (hc : Nb w b (.cells cs t (0, 0)))
    (hq : tmps.getD q undef = .pointer (some ⟨b', 0, none⟩)) (hc' : Nb w b' (.cells cs' t' (0, 0))) (d : TypeDesc) (hu : P.underlying ty = some d) (hd : d.isRow = true) (hi : (P.info? ty).map (·.size) = some cs.size) (hi' : (P.info? ty).map (·.size) = some cs'.size) :
    (results fn tmps).run P w = .ok (.tuple #[.agg cs, .agg cs', tmps.getD u undef]) w := by
  simp only [results, h]
  simp [Sem.run_bind, Result.andThen, -Array.getD_eq_getD_getElem?, hp, hq, asAddr, load_nb hc d hu hd hi, load_nb hc' d hu hd hi']

/-- In a region that draws its order: a whole struct out of its block may be taken first. -/
theorem yieldsIf_load_nb {P : Program} {ops : Array Oper} {S : World → Prop} {op : Oper} {a : Act} (hw : Region.wanted op (yielded ops a.tmps) = true) (ty : TypeId) (x : Operand) (ho : op.op = .load ty x) (b : Nat) (t : TypeId) (cs : Array Value)
    (hx : a.eval x = .pointer (some ⟨b, 0, none⟩)) (hS : ∀ w, S w → Nb w b (.cells cs t (0, 0))) (d : TypeDesc) (hu : P.underlying ty = some d) (hd : d.isRow = true) (hi : (P.info? ty).map (·.size) = some cs.size) : YieldsIf P ops S op (.agg cs) a := by
  have := yieldsIf_load_mid (P := P) (ops := ops) (S := S) hw ty x ho b 0 hx cs.toList d (fun w h j v hj => by rw [Nat.zero_add, (hS w h).cell]; simpa using hj) hu hd (by simpa using hi)
  simpa using this

/-- .. a whole struct into its block, as one step. -/
theorem step_store_nb {P : Program} {ops : Array Oper} {o : Oper} {a : Act} {K : Act → World → Prop} {Q : Exit → Act → World → Prop} {E : Prop} {w : World} {b : Nat} {t : TypeId} {z : Array Value} (ty : TypeId) (x y : Operand) (cs : Array Value) (hgd : o.guard = none) (ho : o.op = .store ty x y)
    (hx : a.eval x = .pointer (some ⟨b, 0, none⟩)) (hy : a.eval y = .agg cs) (hc : Nb w b (.cells z t (0, 0))) (hi : (P.info? ty).map (·.size) = some cs.size) (hz : z.size = cs.size) (h1 : cs.all (·.oneCell') = true)
    (h : K (a.put o.dst undef) (w.setRow b cs)) : if Region.wanted o (yielded ops a.tmps) = true then o.wp P a w K Q else E := by
  have hw : Region.wanted o (yielded ops a.tmps) = true := by simp [Region.wanted, hgd]
  rw [if_pos hw]
  have hr : (storeVar ty ⟨b, 0, none⟩ (.agg cs)).run P w = .ok () (w.setRow b cs) := run_storeVar_row w b t ty z cs hc hi hz h1
  unfold Oper.wp execOp
  simp only [ho, hx, hy, Instr.storeAt, Instr.sureAddr, Sem.run_bind, Sem.run_pure, Result.andThen_ok, hr]
  exact h

/-- A whole struct out of the middle of a block, as one step of a region that draws its order. -/
theorem step_load_part {P : Program} {ops : Array Oper} {o : Oper} {a : Act} {K : Act → World → Prop} {Q : Exit → Act → World → Prop} {E : Prop} {w : World} {b off : Nat} (cs : List Value) (ty : TypeId) (x : Operand) (hgd : o.guard = none) (ho : o.op = .load ty x)
    (hx : a.eval x = .pointer (some ⟨b, off, none⟩)) (hc : w.rangeAt b off cs) (d : TypeDesc) (hu : P.underlying ty = some d) (hd : d.isRow = true) (hi : (P.info? ty).map (·.size) = some cs.length)
    (h : K (a.put o.dst (.agg cs.toArray)) w) : if Region.wanted o (yielded ops a.tmps) = true then o.wp P a w K Q else E := by
  have hw : Region.wanted o (yielded ops a.tmps) = true := by simp [Region.wanted, hgd]
  rw [if_pos hw]
  exact wp_load_mid ty x ho b off hx cs d hc hu hd hi h

/-- .. a whole struct into the middle of a block. -/
theorem step_store_part {P : Program} {ops : Array Oper} {o : Oper} {a : Act} {K : Act → World → Prop} {Q : Exit → Act → World → Prop} {E : Prop} {w : World} {b off : Nat} (cs : Array Value) (ty : TypeId) (x y : Operand) (hgd : o.guard = none) (ho : o.op = .store ty x y)
    (hx : a.eval x = .pointer (some ⟨b, off, none⟩)) (hy : a.eval y = .agg cs) (ht : w.there b off cs.size) (hi : (P.info? ty).map (·.size) = some cs.size) (h1 : cs.all (·.oneCell') = true)
    (h : K (a.put o.dst undef) (w.setCells b off cs.toList)) : if Region.wanted o (yielded ops a.tmps) = true then o.wp P a w K Q else E := by
  have hw : Region.wanted o (yielded ops a.tmps) = true := by simp [Region.wanted, hgd]
  rw [if_pos hw]
  exact wp_store_mid ty x y ho b off cs hx hy ht hi h1 h

/-- A row and a block of another type are apart. -/
theorem own_nb_ne {w : World} {base size n g : Nat} {e t : TypeId} {v : Value} {xs : List Value} {cs : Array Value} (h : w.ownsRow base e size v n xs) (hg : Nb w g (.cells cs t (0, 0))) (hne : e ≠ t) : v.ownBlock ≠ some g := by
  rcases h.2 with ⟨rfl, _⟩ | ⟨g', cap, cur, rfl, _, hh, _⟩
  · simp [Value.ownBlock]
  · intro he
    have : g' = g := by simpa [Value.ownBlock] using he
    subst this
    have hg' : w.heap[g']? = _ := hg
    rw [hh] at hg'
    simp only [Option.some.injEq, Obj.cells.injEq] at hg'
    exact hne hg'.2.1

end Go.Proofs.Ytbafgipegekbcaa
