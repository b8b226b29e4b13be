/- Chapter 16: Apply. -/
import Derived.Test.YtgmbgomlicamdaaMgB
namespace Go.Proofs.Ytgmbgomlicamdaa
open Go.RowKit Go.Maps
set_option linter.unusedSimpArgs false
set_option linter.unusedVariables false

/-- The boxes of Apply: two validators, a configuration, the two results. -/
structure Vap (b p : Nat) (w0 w : World) (x y : Val) (c : Cfg) (r s : Val) : Prop where
  v : Vvc b p w0 w x y c
  hr : ValAt w (p + 3) r
  hs : ValAt w (p + 4) s
theorem Vap.call {b p : Nat} {w0 w w' : World} {x y : Val} {c : Cfg} {r s : Val} (h : Vap b p w0 w x y c r s) (hb : Below w.heap.size w w') : Vap b p w0 w' x y c r s := ⟨h.v.call hb, h.hr.call hb, h.hs.call hb⟩
theorem Vap.new (w : World) (x y : Val) (c : Cfg) : Vap w.heap.size w.heap.size w (((((w.alloc (.cells x.list.toArray 24)).alloc (.cells y.list.toArray 24)).alloc (.cells c.list.toArray 26)).alloc (.cells Val.zero.list.toArray 24)).alloc (.cells Val.zero.list.toArray 24)) x y c Val.zero Val.zero := by
  have h := Vvc.new w x y c
  have e : (((w.alloc (.cells x.list.toArray 24)).alloc (.cells y.list.toArray 24)).alloc (.cells c.list.toArray 26)).heap.size = w.heap.size + 3 := by simp
  generalize ((w.alloc (.cells x.list.toArray 24)).alloc (.cells y.list.toArray 24)).alloc (.cells c.list.toArray 26) = w3 at *
  have h1 := ValAt.new w3 Val.zero
  have h2 := ValAt.new (w3.alloc (.cells Val.zero.list.toArray 24)) Val.zero
  have e2 : (w3.alloc (.cells Val.zero.list.toArray 24)).heap.size = w.heap.size + 4 := by simp [e]
  rw [e] at h1
  rw [e2] at h2
  exact ⟨(h.alloc _).alloc _, h1.alloc _, h2⟩
theorem Vvc.setX {b p : Nat} {w0 w : World} {x y : Val} {c : Cfg} (h : Vvc b p w0 w x y c) (i : Nat) (u : Value) (x' : Val) (hx : x'.list.toArray = x.list.toArray.setIfInBounds i u) : Vvc b p w0 (w.setCell ⟨p, i, none⟩ u) x' y c := by
  rw [Nb.set h.hx, ← hx]
  exact ⟨Nb.same h.hx, Nb.other h.hy (by omega), (setRow_other w p (p + 2) _ (by omega)).trans h.hc, below_setRow h.hb h.l1 _, h.l1⟩
theorem Vvc.setY {b p : Nat} {w0 w : World} {x y : Val} {c : Cfg} (h : Vvc b p w0 w x y c) (i : Nat) (u : Value) (y' : Val) (hx : y'.list.toArray = y.list.toArray.setIfInBounds i u) : Vvc b p w0 (w.setCell ⟨p + 1, i, none⟩ u) x y' c := by
  rw [Nb.set h.hy, ← hx]
  exact ⟨Nb.other h.hx (by omega), Nb.same h.hy, (setRow_other w (p + 1) (p + 2) _ (by omega)).trans h.hc, below_setRow h.hb (by have := h.l1; omega) _, h.l1⟩
theorem Vvc.setG {b p g : Nat} {w0 w : World} {x y : Val} {c : Cfg} (h : Vvc b p w0 w x y c) (cs : Array Value) (hg : p + 2 < g) : Vvc b p w0 (w.setRow g cs) x y c :=
  ⟨Nb.other h.hx (by omega), Nb.other h.hy (by omega), (setRow_other w g (p + 2) _ (by omega)).trans h.hc, below_setRow h.hb (by have := h.l1; omega) _, h.l1⟩
theorem Vap.setX {b p : Nat} {w0 w : World} {x y : Val} {c : Cfg} {r s : Val} (h : Vap b p w0 w x y c r s) (i : Nat) (u : Value) (x' : Val) (hx : x'.list.toArray = x.list.toArray.setIfInBounds i u) : Vap b p w0 (w.setCell ⟨p, i, none⟩ u) x' y c r s := by
  refine ⟨h.v.setX i u x' hx, ?_, ?_⟩
  · rw [Nb.set h.v.hx]; exact Nb.other h.hr (by omega)
  · rw [Nb.set h.v.hx]; exact Nb.other h.hs (by omega)
theorem Vap.setY {b p : Nat} {w0 w : World} {x y : Val} {c : Cfg} {r s : Val} (h : Vap b p w0 w x y c r s) (i : Nat) (u : Value) (y' : Val) (hx : y'.list.toArray = y.list.toArray.setIfInBounds i u) : Vap b p w0 (w.setCell ⟨p + 1, i, none⟩ u) x y' c r s := by
  refine ⟨h.v.setY i u y' hx, ?_, ?_⟩
  · rw [Nb.set h.v.hy]; exact Nb.other h.hr (by omega)
  · rw [Nb.set h.v.hy]; exact Nb.other h.hs (by omega)
theorem Vap.setR {b p : Nat} {w0 w : World} {x y : Val} {c : Cfg} {r s : Val} (h : Vap b p w0 w x y c r s) (r' : Val) : Vap b p w0 (w.setRow (p + 3) r'.list.toArray) x y c r' s :=
  ⟨h.v.setG _ (by omega), Nb.same h.hr, Nb.other h.hs (by omega)⟩
theorem Vap.setS {b p : Nat} {w0 w : World} {x y : Val} {c : Cfg} {r s : Val} (h : Vap b p w0 w x y c r s) (s' : Val) : Vap b p w0 (w.setRow (p + 4) s'.list.toArray) x y c r s' :=
  ⟨h.v.setG _ (by omega), Nb.other h.hr (by omega), Nb.same h.hs⟩

/-- What Apply hands back. -/
def Val.mv1 (a : Val) : Val := { a with bal := 0, st := 7 }
def Val.mv2 (a b : Val) : Val := { b with bal := b.bal + a.bal }
def ApPost (a b : Val) (r : Int) (w : World) (e : Ending) (w' : World) : Prop :=
  e = .returned (.tuple #[.agg (if r = 0 then a.mv1 else Val.zero).list.toArray, .agg (if r = 0 then a.mv2 b else Val.zero).list.toArray, .int .i64 r]) ∧ Below w.heap.size w w'

set_option maxHeartbeats 4000000 in
theorem apply_no (a b : Val) (c : Cfg) (w : World) (ha : a.Ok) (hb : b.Ok) (hm : c.maxBal ≤ 1152921504606846976) (hr : Val.chk a b c ≠ 0) :
    Calls Try.prog 10 #[.agg a.list.toArray, .agg b.list.toArray, .agg c.list.toArray] w (ApPost a b (Val.chk a b c) w) := by
  have HC := Lib.hid (fun w => mcheck_any a b c w ha hb hm)
  have HF := Lib.hid (Vap.new w a b c)
  clear ha hb hm
  generalize Val.chk a b c = r at *
  have hr1 : (r != 0) = true := by simpa using hr
  have hr0 : (r == 0) = false := by simpa using hr
  have HR := Lib.hid hr
  clear hr
  go_enter Try.func10, Try.ntmps10
  go_wp2_with (first | ((with_reducible show wpList _ _ _ (_ :: _) _ _); first | refine wpList_load_val (.tmp 3) rfl rfl rfl HF.out.v.hx ?_ | refine wpList_load_val (.tmp 4) rfl rfl rfl HF.out.v.hy ?_ | refine wpList_load_cf (.tmp 5) rfl rfl rfl HF.out.v.hc ?_) | fail)
  refine (HC.out _).mono ?_
  rintro en w1 ⟨rfl, hb⟩
  have HF1 := Lib.hid (HF.out.call hb)
  clear HF hb
  go_wp2_with (first | ((with_reducible show wpList _ _ _ (_ :: _) _ _); first | refine wpList_store_nb 24 (.tmp 6) (.tmp 16) Val.zero.list.toArray rfl rfl rfl rfl HF1.out.hr Val.zero.info rfl Val.zero.oneA ?_ | refine wpList_store_nb 24 (.tmp 7) (.tmp 17) Val.zero.list.toArray rfl rfl rfl rfl (HF1.out.setR Val.zero).hs Val.zero.info rfl Val.zero.oneA ?_) | fail)
  have HF2 := Lib.hid ((HF1.out.setR Val.zero).setS Val.zero)
  refine bodyPost_ret (results_c2t rfl rfl HF2.out.hr rfl HF2.out.hs _ Try.underlying24 rfl Val.zero.info Val.zero.info) rfl ?_
  refine ⟨?_, HF2.out.v.hb⟩
  rw [if_neg HR.out, if_neg HR.out]
  rfl

set_option maxHeartbeats 4000000 in
theorem apply_yes (a b : Val) (c : Cfg) (w : World) (ha : a.Ok) (hb : b.Ok) (hm : c.maxBal ≤ 1152921504606846976) (hr : Val.chk a b c = 0) (hst : a.st = 2) (hsum : a.bal + b.bal ≤ c.maxBal) :
    Calls Try.prog 10 #[.agg a.list.toArray, .agg b.list.toArray, .agg c.list.toArray] w (ApPost a b 0 w) := by
  have HC := Lib.hid (fun w => mcheck_any a b c w ha hb hm)
  have HF := Lib.hid (Vap.new w a b c)
  have HN := Lib.hid (fun w => next_yes (s := 2) (e := 6) (v := 7) ⟨12, by decide⟩ w)
  have hw : IntKind.u64.wrap (b.bal + a.bal) = b.bal + a.bal := IntWalk.u64_in _ (by have := ha.1; have := hb.1; omega)
  rw [hr] at HC
  clear ha hb hm hsum hr
  go_enter Try.func10, Try.ntmps10
  go_wp2_with (first | ((with_reducible show wpList _ _ _ (_ :: _) _ _); first | refine wpList_load_val (.tmp 3) rfl rfl rfl HF.out.v.hx ?_ | refine wpList_load_val (.tmp 4) rfl rfl rfl HF.out.v.hy ?_ | refine wpList_load_cf (.tmp 5) rfl rfl rfl HF.out.v.hc ?_) | fail)
  refine (HC.out _).mono ?_
  rintro en w1 ⟨rfl, hb⟩
  have HF1 := Lib.hid (HF.out.call hb)
  clear HF hb
  have x0 := HF1.out.v.hx.c0
  have y0 := HF1.out.v.hy.c0
  have fy := Nb.frozen (i := 0) HF1.out.v.hy
  go_wp2_with (first | ((with_reducible show wpList _ _ _ (⟨some 25, _, _, _, _, _⟩ :: _) _ _); refine halted ?_) | fail)
  unfold Halted
  clear x0 y0 fy hw
  have HF2 := Lib.hid (HF1.out.setY 0 (.int .u64 (b.bal + a.bal)) (a.mv2 b) rfl)
  generalize hwn : World.setCell _ _ _ = w2 at HF2 ⊢
  clear HF1 hwn
  have x0 := HF2.out.v.hx.c0
  have fx := Nb.frozen (i := 0) HF2.out.v.hx
  go_wp2_with (first | ((with_reducible show wpList _ _ _ (⟨some 27, _, _, _, _, _⟩ :: _) _ _); refine halted ?_) | fail)
  unfold Halted
  clear x0 fx
  have HF3 := Lib.hid (HF2.out.setX 0 (.int .u64 0) { a with bal := 0 } rfl)
  generalize hwn : World.setCell _ _ _ = w3 at HF3 ⊢
  clear HF2 hwn
  have x1 := HF3.out.v.hx.c1
  rw [show ({ a with bal := 0 } : Val).st = a.st from rfl, hst] at x1
  go_wp2_with fail
  refine (HN.out _).mono ?_
  rintro en w4 ⟨rfl, hb⟩
  clear x1
  have HF4 := Lib.hid (HF3.out.call hb)
  clear HF3 hb
  have x1 := HF4.out.v.hx.c1
  have fx := Nb.frozen (i := 1) HF4.out.v.hx
  go_wp2_with fail
  have HF5 := Lib.hid (HF4.out.setX 1 (.int .i64 7) a.mv1 rfl)
  generalize hwn : World.setCell _ _ _ = w5 at HF5 ⊢
  clear HF4 hwn x1 fx
  refine wp_region_held_drew (S := fun w' => ∃ r s, Vap w.heap.size w.heap.size w w' a.mv1 (a.mv2 b) c r s) (by kernel_rfl) ⟨_, _, (show Vap w.heap.size w.heap.size w (w5.drewN 1) _ _ _ _ _ from HF5.out.call (below_drewN (Below.refl _ _) 1))⟩ (fun hS => ?_)
  have HF6 := Lib.hid (show Vap w.heap.size w.heap.size w (w5.drew) a.mv1 (a.mv2 b) c Val.zero Val.zero from HF5.out.call (below_drewN (Below.refl _ _) 1))
  clear HF5
  refine wpAnyH_take (i := 0) rfl (by kernel_rfl) (by kernel_rfl) (by kernel_rfl) (fun _ _ _ h => h) (yieldsIf_load_nb rfl 24 (.tmp 3) rfl w.heap.size 24 a.mv1.list.toArray rfl (fun w hS => by obtain ⟨r, s, h⟩ := hS; exact h.v.hx) _ Try.underlying24 rfl a.mv1.info) hS ?_
  try simp only [Act.put, List.getElem_toArray, List.getElem_cons_succ, List.getElem_cons_zero, List.setIfInBounds_toArray, List.set_cons_zero, List.set_cons_succ]
  refine wpAnyH_take (i := 1) rfl (by kernel_rfl) (by kernel_rfl) (by kernel_rfl) (fun _ _ _ h => h) (yieldsIf_load_nb rfl 24 (.tmp 4) rfl (w.heap.size + 1) 24 (a.mv2 b).list.toArray rfl (fun w hS => by obtain ⟨r, s, h⟩ := hS; exact h.v.hy) _ Try.underlying24 rfl (a.mv2 b).info) hS ?_
  try simp only [Act.put, List.getElem_toArray, List.getElem_cons_succ, List.getElem_cons_zero, List.setIfInBounds_toArray, List.set_cons_zero, List.set_cons_succ]
  refine wpAnyH_ready (rs := [2]) (by kernel_rfl) (by simp) (AllReadyH.cons rfl (fun K hK => ?_) AllReadyH.nil)
  refine step_store_nb 24 (.tmp 6) (.tmp 33) a.mv1.list.toArray rfl rfl rfl rfl HF6.out.hr a.mv1.info rfl a.mv1.oneA ?_
  have HF7 := Lib.hid (HF6.out.setR a.mv1)
  generalize hwn : World.setRow _ _ _ = w7 at HF7 ⊢
  clear HF6 hwn
  refine hK.out _ _ ⟨_, _, HF7.out⟩ (fun hS => ?_)
  clear hK K
  try simp only [Act.put, List.getElem_toArray, List.getElem_cons_succ, List.getElem_cons_zero, List.setIfInBounds_toArray, List.set_cons_zero, List.set_cons_succ]
  refine wpAnyH_ready (rs := [3]) (by kernel_rfl) (by simp) (AllReadyH.cons rfl (fun K hK => ?_) AllReadyH.nil)
  refine step_store_nb 24 (.tmp 7) (.tmp 34) (a.mv2 b).list.toArray rfl rfl rfl rfl HF7.out.hs (a.mv2 b).info rfl (a.mv2 b).oneA ?_
  have HF8 := Lib.hid (HF7.out.setS (a.mv2 b))
  generalize hwn : World.setRow _ _ _ = w8 at HF8 ⊢
  clear HF7 hwn
  refine hK.out _ _ ⟨_, _, HF8.out⟩ (fun hS => ?_)
  clear hK K
  try simp only [Act.put, List.getElem_toArray, List.getElem_cons_succ, List.getElem_cons_zero, List.setIfInBounds_toArray, List.set_cons_zero, List.set_cons_succ]
  refine wpAnyH_take (i := 4) (v := ?v4) rfl (by kernel_rfl) (by kernel_rfl) (by kernel_rfl) (fun _ _ _ h => h) (Or.inl ⟨by rfl, ?y4⟩) hS ?z4
  case y4 => intro w hSw; (try dsimp only at hSw); go_simp; (try with_reducible rfl)
  try simp only [Act.put, List.getElem_toArray, List.getElem_cons_succ, List.getElem_cons_zero, List.setIfInBounds_toArray, List.set_cons_zero, List.set_cons_succ]
  refine wpAnyH_done (by kernel_rfl) ?_ _
  go_wp2_with fail
  refine bodyPost_ret (results_c2t rfl rfl HF8.out.hr rfl HF8.out.hs _ Try.underlying24 rfl a.mv1.info (a.mv2 b).info) rfl ?_
  exact ⟨rfl, HF8.out.v.hb⟩

theorem apply_any (a b : Val) (c : Cfg) (w : World) (ha : a.Ok) (hb : b.Ok) (hm : c.maxBal ≤ 1152921504606846976) :
    Calls Try.prog 10 #[.agg a.list.toArray, .agg b.list.toArray, .agg c.list.toArray] w (ApPost a b (Val.chk a b c) w) := by
  by_cases hr : Val.chk a b c = 0
  · rw [hr]
    have h1 := hr
    unfold Val.chk at h1
    by_cases h2 : (a.st == 2 && b.st == 2) = false
    · rw [if_pos h2] at h1; omega
    rw [if_neg h2] at h1
    by_cases h3 : (!a.sl && !b.sl) = false
    · rw [if_pos h3] at h1; omega
    rw [if_neg h3] at h1
    by_cases h4 : decide (a.bal + b.bal ≤ c.maxBal) = false
    · rw [if_pos h4] at h1; omega
    simp at h2 h4
    exact apply_yes a b c w ha hb hm hr h2.1 h4
  · exact apply_no a b c w ha hb hm hr

end Go.Proofs.Ytgmbgomlicamdaa
