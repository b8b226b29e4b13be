/- Chapter 17: Apply; the example holds. -/
import Derived.Test.YtbafgipegekbcaaPtA
namespace Go.Proofs.Ytbafgipegekbcaa
open Go.RowKit
set_option linter.unusedSimpArgs false
set_option linter.unusedVariables false
set_option maxRecDepth 20000

/-- One struct result that lies in memory, and one that does not. -/
theorem results_c1t {P : Program} {fn : Func} {p u : Tmp} {ty : TypeId} (h : fn.results = #[.cell p ty, .tmp u]) {tmps : Array Value} {w : World} {b : Nat} {t : TypeId} {cs : Array Value} (hp : tmps.getD p undef = .pointer (some ⟨b, 0, none⟩)) (hc : Nb w b (.cells cs t (0, 0)))
    (d : TypeDesc) (hu : P.underlying ty = some d) (hd : d.isRow = true) (hi : (P.info? ty).map (·.size) = some cs.size) :
    (results fn tmps).run P w = .ok (.tuple #[.agg cs, tmps.getD u undef]) w := by
  simp only [results, h]
  simp [Sem.run_bind, Result.andThen, -Array.getD_eq_getD_getElem?, hp, asAddr, load_nb hc d hu hd hi]

/-- What is paid of a request. -/
def payN (v : Val) (amt : Int) (c : Cfg) : Int := if avail v c < amt then avail v c else amt
def Val.less (v : Val) (n : Int) : Val := { v with bal := v.bal - n }
theorem payN_bd {v : Val} {c : Cfg} {amt : Int} (hv : v.Ok) (hc : 0 ≤ c.minBal) (ha : 0 ≤ amt) : 0 ≤ payN v amt c ∧ payN v amt c ≤ v.bal := by
  have := avail_bd hv hc
  unfold payN
  split <;> omega
theorem less_ok {v : Val} {c : Cfg} {amt : Int} (hv : v.Ok) (hc : 0 ≤ c.minBal) (ha : 0 ≤ amt) : (v.less (payN v amt c)).Ok := by
  have h1 := payN_bd (amt := amt) hv hc ha
  have h2 := hv.2
  exact ⟨by show 0 ≤ v.bal - _; omega, by show v.bal - _ ≤ _; omega⟩

/-- The boxes of Apply. -/
structure Pa (p : Nat) (w0 : World) (x : Val) (c : Cfg) (r : Val) (w : World) : Prop where
  v : Vc p w0 x c w
  hr : ValAt w (p + 2) r
theorem Pa.call {p : Nat} {w0 w w' : World} {x : Val} {c : Cfg} {r : Val} (h : Pa p w0 x c r w) (hb : Below w.heap.size w w') : Pa p w0 x c r w' := ⟨h.v.call hb, h.hr.call hb⟩
theorem Pa.new (w : World) (x : Val) (c : Cfg) : Pa w.heap.size w x c Val.zero (((w.alloc (.cells x.list.toArray 35)).alloc (.cells c.list.toArray 26)).alloc (.cells Val.zero.list.toArray 35)) := by
  have h := Vc.new w x c
  refine ⟨h.call ((Below.refl _ _).alloc (Nat.le_refl _) _), ?_⟩
  have := ValAt.new ((w.alloc (.cells x.list.toArray 35)).alloc (.cells c.list.toArray 26)) Val.zero
  simpa using this
theorem Pa.setX {p : Nat} {w0 w : World} {x : Val} {c : Cfg} {r : Val} (h : Pa p w0 x c r w) (i : Nat) (u : Value) (x' : Val) (hx : x'.list.toArray = x.list.toArray.setIfInBounds i u) : Pa p w0 x' c r (w.setCell ⟨p, i, none⟩ u) := by
  rw [Nb.set h.v.hx, ← hx]
  exact ⟨⟨Nb.same h.v.hx, (setRow_other w p (p + 1) _ (by omega)).trans h.v.hc, below_setRow h.v.hb (Nat.le_refl _) _⟩, Nb.other h.hr (by omega)⟩
theorem Pa.setR {p : Nat} {w0 w : World} {x : Val} {c : Cfg} {r : Val} (h : Pa p w0 x c r w) (r' : Val) : Pa p w0 x c r' (w.setRow (p + 2) r'.list.toArray) :=
  ⟨⟨Nb.other h.v.hx (by omega), (setRow_other w (p + 2) (p + 1) _ (by omega)).trans h.v.hc, below_setRow h.v.hb (by omega) _⟩, Nb.same h.hr⟩

set_option maxHeartbeats 4000000 in
theorem apply_any (v : Val) (amt : Int) (c : Cfg) (w : World) (hv : v.Ok) (hc : 0 ≤ c.minBal) (ha : 0 ≤ amt) :
    Calls Try.prog 14 #[.agg v.list.toArray, .int .u64 amt, .agg c.list.toArray] w fun e w' => e = .returned (.tuple #[.agg (v.less (payN v amt c)).list.toArray, .int .u64 (payN v amt c)]) ∧ Below w.heap.size w w' := by
  have HA := Lib.hid (fun w => avail_any v c w hv hc)
  have HF := Lib.hid (Pa.new w v c)
  have hb := payN_bd (amt := amt) hv hc ha
  have hv1 := hv.2
  have hmin : (if avail v c < amt then avail v c else amt) = payN v amt c := rfl
  generalize payN v amt c = n at *
  generalize avail v c = av at *
  have hw : IntKind.u64.wrap (v.bal - n) = v.bal - n := IntWalk.u64_in _ (by omega)
  clear hv hc hb hv1
  go_enter Try.func14, Try.ntmps14
  go_wp2_with (first | ((with_reducible show wpList _ _ _ (_ :: _) _ _); first | refine wpList_load_val (.tmp 3) rfl rfl rfl HF.out.v.hx ?_ | refine wpList_load_cf (.tmp 5) rfl rfl rfl HF.out.v.hc ?_) | fail)
  refine (HA.out _).mono ?_
  rintro en w1 ⟨rfl, hb⟩
  have HF1 := Lib.hid (HF.out.call hb)
  clear HF hb HA
  have x0 := HF1.out.v.hx.c0
  have fx := Nb.frozen (i := 0) HF1.out.v.hx
  go_wp2_with (first | ((with_reducible show wpList _ _ _ (⟨some 19, _, _, _, _, _⟩ :: _) _ _); refine halted ?_) | fail)
  unfold Halted
  clear x0 fx hw hmin
  have HF2 := Lib.hid (HF1.out.setX 0 (.int .u64 (v.bal - n)) (v.less n) rfl)
  generalize hwn : World.setCell _ _ _ = w2 at HF2 ⊢
  clear HF1 hwn
  go_wp2_with (first | ((with_reducible show wpList _ _ _ (_ :: _) _ _); first | refine wpList_load_val (.tmp 3) rfl rfl rfl HF2.out.v.hx ?_ | refine wpList_store_nb 35 (.tmp 6) (.tmp 19) (v.less n).list.toArray rfl rfl rfl rfl HF2.out.hr (v.less n).info rfl (v.less n).oneA ?_) | fail)
  have HF3 := Lib.hid (HF2.out.setR (v.less n))
  refine bodyPost_ret (results_c1t rfl rfl HF3.out.hr _ Try.underlying35 rfl (v.less n).info) rfl ?_
  exact ⟨rfl, HF3.out.v.hb⟩

/-- An active validator of the examples. -/
def Val.act (b : Int) : Val := ⟨b, 2, false, 0, 0, 0, 0⟩
theorem al_pay : payN (Val.act 20) 15 dflt = 12 := by decide
theorem al_av : avail (Val.act 8) dflt = 0 := by decide
theorem act_ok (b : Int) (h : 0 ≤ b) (h' : b ≤ 1000) : (Val.act b).Ok := ⟨h, by show b ≤ _; omega⟩
/-- A validator in its block. -/
structure V1 (p : Nat) (w0 : World) (x : Val) (w : World) : Prop where
  hx : ValAt w p x
  hb : Below w0.heap.size w0 w
  l1 : w0.heap.size ≤ p
theorem V1.call {p : Nat} {w0 w w' : World} {x : Val} (h : V1 p w0 x w) (hb : Below w.heap.size w w') : V1 p w0 x w' := ⟨h.hx.call hb, h.hb.trans (hb.mono (by have := h.hx.lt; have := h.l1; omega)), h.l1⟩

set_option maxHeartbeats 4000000 in
theorem alive_any (w : World) : Calls Try.prog 7 #[] w fun en w' => en = .returned (.bool true) ∧ Below w.heap.size w w' := by
  have HD := Lib.hid (fun w => default_any w)
  have HA := Lib.hid (fun w => apply_any (Val.act 20) 15 dflt w (act_ok 20 (by decide) (by decide)) (by decide) (by decide))
  rw [al_pay] at HA
  have HV := Lib.hid (fun w => avail_any (Val.act 8) dflt w (act_ok 8 (by decide) (by decide)) (by decide))
  rw [al_av] at HV
  go_enter Try.func7, Try.ntmps7
  go_wp2_with fail
  refine (HD.out _).mono ?_
  rintro en w1 ⟨rfl, hb1⟩
  have HB1 := Lib.hid hb1
  clear hb1
  go_wp2_with fail
  refine (HA.out _).mono ?_
  rintro en w2 ⟨rfl, hb2⟩
  have HB2 := Lib.hid (HB1.out.trans (hb2.mono HB1.out.size))
  clear hb2 HB1 HA
  go_wp2_with (first | ((with_reducible show wpList _ _ _ (_ :: _) _ _); refine wpList_store_last 35 (.tmp 1) (.tmp 7) (Val.act 8).list.toArray rfl rfl rfl rfl (Val.act 8).info rfl (Val.act 8).oneA ?_) | fail)
  have HS : Hid (V1 w2.heap.size w (Val.act 8) (w2.alloc (.cells (Val.act 8).list.toArray 35))) := ⟨ValAt.new _ _, HB2.out.alloc HB2.out.size _, HB2.out.size⟩
  refine calm_region (V1 w2.heap.size w (Val.act 8)) (by kernel_rfl) (by kernel_rfl) (HS.out.call (below_drewN (Below.refl _ _) 1)) ?_
  refine calm_val (v := ?v0) (by rfl) ?y0 ?z0
  case y0 => intro w hw; go_simp; (try with_reducible rfl)
  try simp only [Act.put, List.getElem_toArray, List.getElem_cons_succ, List.getElem_cons_zero, List.setIfInBounds_toArray, List.set_cons_zero, List.set_cons_succ]
  refine calm_val (v := ?v1) (by rfl) ?y1 ?z1
  case y1 => intro w hw; go_simp; (try with_reducible rfl)
  try simp only [Act.put, List.getElem_toArray, List.getElem_cons_succ, List.getElem_cons_zero, List.setIfInBounds_toArray, List.set_cons_zero, List.set_cons_succ]
  refine calm_val (v := ?v2) (by rfl) ?y2 ?z2
  case y2 => intro w hw; go_simp; (try with_reducible rfl)
  try simp only [Act.put, List.getElem_toArray, List.getElem_cons_succ, List.getElem_cons_zero, List.setIfInBounds_toArray, List.set_cons_zero, List.set_cons_succ]
  refine calm_load 35 (.tmp 1) (by rfl) rfl rfl (fun w hw => V1.hx hw) _ Try.underlying35 rfl (Val.act 8).info ?_
  try simp only [Act.put, List.getElem_toArray, List.getElem_cons_succ, List.getElem_cons_zero, List.setIfInBounds_toArray, List.set_cons_zero, List.set_cons_succ]
  refine calm_val (v := ?v4) (by rfl) ?y4 ?z4
  case y4 => intro w hw; go_simp; (try with_reducible rfl)
  try simp only [Act.put, List.getElem_toArray, List.getElem_cons_succ, List.getElem_cons_zero, List.setIfInBounds_toArray, List.set_cons_zero, List.set_cons_succ]
  refine calm_eqv (Val.act 8) (Val.act 8) true (.tmp 12) (.tmp 13) _ (by rfl) rfl rfl rfl (by decide) ?_
  try simp only [Act.put, List.getElem_toArray, List.getElem_cons_succ, List.getElem_cons_zero, List.setIfInBounds_toArray, List.set_cons_zero, List.set_cons_succ]
  refine calm_val (v := ?v6) (by rfl) ?y6 ?z6
  case y6 => intro w hw; go_simp; (try with_reducible rfl)
  try simp only [Act.put, List.getElem_toArray, List.getElem_cons_succ, List.getElem_cons_zero, List.setIfInBounds_toArray, List.set_cons_zero, List.set_cons_succ]
  refine calm_val (v := ?v7) (by rfl) ?y7 ?z7
  case y7 => intro w hw; go_simp; (try with_reducible rfl)
  try simp only [Act.put, List.getElem_toArray, List.getElem_cons_succ, List.getElem_cons_zero, List.setIfInBounds_toArray, List.set_cons_zero, List.set_cons_succ]
  refine calm_load 35 (.tmp 1) (by rfl) rfl rfl (fun w hw => V1.hx hw) _ Try.underlying35 rfl (Val.act 8).info ?_
  try simp only [Act.put, List.getElem_toArray, List.getElem_cons_succ, List.getElem_cons_zero, List.setIfInBounds_toArray, List.set_cons_zero, List.set_cons_succ]
  refine calm_fn V1.call HD.out (by rfl) ?f9 ?_
  case f9 => intro w; go_simp
  try simp only [Act.put, List.getElem_toArray, List.getElem_cons_succ, List.getElem_cons_zero, List.setIfInBounds_toArray, List.set_cons_zero, List.set_cons_succ]
  refine calm_fn V1.call HV.out (by rfl) ?f10 ?_
  case f10 => intro w; go_simp
  try simp only [Act.put, List.getElem_toArray, List.getElem_cons_succ, List.getElem_cons_zero, List.setIfInBounds_toArray, List.set_cons_zero, List.set_cons_succ]
  refine calm_val (v := ?v11) (by rfl) ?y11 ?z11
  case y11 => intro w hw; go_simp; (try with_reducible rfl)
  try simp only [Act.put, List.getElem_toArray, List.getElem_cons_succ, List.getElem_cons_zero, List.setIfInBounds_toArray, List.set_cons_zero, List.set_cons_succ]
  refine calm_val (v := ?v12) (by rfl) ?y12 ?z12
  case y12 => intro w hw; go_simp; (try with_reducible rfl)
  try simp only [Act.put, List.getElem_toArray, List.getElem_cons_succ, List.getElem_cons_zero, List.setIfInBounds_toArray, List.set_cons_zero, List.set_cons_succ]
  refine calm_val (v := ?v13) (by rfl) ?y13 ?z13
  case y13 => intro w hw; go_simp; (try with_reducible rfl)
  try simp only [Act.put, List.getElem_toArray, List.getElem_cons_succ, List.getElem_cons_zero, List.setIfInBounds_toArray, List.set_cons_zero, List.set_cons_succ]
  refine wpQuiet_nil ?_
  intro w6 hw6
  have HW6 := Lib.hid hw6
  clear hw6
  go_wp2_with fail
  go_ret
  exact ⟨rfl, HW6.out.hb⟩

end Go.Proofs.Ytbafgipegekbcaa
