/- Chapter 16: the walk of MergeChecks. -/
import Derived.Test.YtgmbgomlicamdaaMgE
import Derived.Great.BuildSlice
namespace Go.Proofs.Ytgmbgomlicamdaa
open Go.RowKit Go.Maps
set_option linter.unusedSimpArgs false
set_option linter.unusedVariables false
set_option maxRecDepth 20000

/-- What a call of a law says: true, and the older memory as before. -/
def Tr (w : World) (e : Ending) (w' : World) : Prop := e = .returned (.bool true) ∧ Below w.heap.size w w'

/-- The three arguments boxed at p, two validators at q. -/
structure Mc (b p q : Nat) (w0 : World) (a d : Val) (c : Cfg) (x y : Val) (w : World) : Prop where
  v : Vvc b p w0 w a d c
  u : Vv b q w0 x y w
theorem Mc.call {b p q : Nat} {w0 w w' : World} {a d : Val} {c : Cfg} {x y : Val} (h : Mc b p q w0 a d c x y w) (hb : Below w.heap.size w w') : Mc b p q w0 a d c x y w' := ⟨h.v.call hb, h.u.call hb⟩

/-- .. and a row of two at g. -/
def McG (b p q g : Nat) (w0 : World) (a d : Val) (c : Cfg) (x y : Val) (w : World) : Prop := Mc b p q w0 a d c x y w ∧ w.rangeAt g 0 x.list ∧ w.rangeAt g 7 y.list ∧ g < w.heap.size

theorem McG.call {b p q g : Nat} {w0 w w' : World} {a d : Val} {c : Cfg} {x y : Val} (h : McG b p q g w0 a d c x y w) (hb : Below w.heap.size w w') : McG b p q g w0 a d c x y w' :=
  ⟨h.1.call hb, range_call h.2.1 h.2.2.2 hb, range_call h.2.2.1 h.2.2.2 hb, Nat.lt_of_lt_of_le h.2.2.2 hb.size⟩

set_option maxHeartbeats 4000000 in
theorem mergeChecks_bad (a d : Val) (c : Cfg) (w : World) (nok : ¬ c.Ok) : Calls Try.prog 3 #[.agg a.list.toArray, .agg d.list.toArray, .agg c.list.toArray] w (Tr w) := by
  have HF := Lib.hid (Vvc.new w a d c)
  have HCk := Lib.hid (fun w => check_any c w)
  have HAl := Lib.hid alive_any
  have HNk := Lib.hid nok
  clear nok
  go_enter Try.func3, Try.ntmps3
  go_wp2_with (first | ((with_reducible show wpList _ _ _ (_ :: _) _ _); refine wpList_load_cf (.tmp 5) rfl rfl rfl HF.out.hc ?_) | fail)
  refine (HCk.out _).mono ?_
  rintro en w1 ⟨⟨r, rfl, hr⟩, hb⟩
  have HB := Lib.hid (HF.out.call hb).hb
  clear HF hb
  have hr0 : ¬ r = 0 := fun h => HNk.out (hr.1 h)
  clear hr
  go_wp2_with fail
  refine (HAl.out _).mono ?_
  rintro en w2 ⟨rfl, hb⟩
  have HB2 := Lib.hid (HB.out.trans (hb.mono HB.out.size))
  clear hb HB
  go_wp2
  go_ret
  exact ⟨rfl, HB2.out⟩

theorem chk_zero {a b : Val} {c : Cfg} (hr : Val.chk a b c = 0) : a.st = 2 ∧ a.bal + b.bal ≤ c.maxBal := by
  have h1 := hr
  unfold Val.chk at h1
  by_cases h2 : (a.st == 2 && b.st == 2) = false
  · rw [if_pos h2] at h1; omega
  rw [if_neg h2] at h1
  by_cases h3 : (!a.sl && !b.sl) = false
  · rw [if_pos h3] at h1; omega
  rw [if_neg h3] at h1
  by_cases h4 : decide (a.bal + b.bal ≤ c.maxBal) = false
  · rw [if_pos h4] at h1; omega
  simp at h2 h4
  exact ⟨h2.1, h4⟩

theorem fill2 (x y : Val) : Instr.fill (fun i => some (i * 7, 7)) ((Array.range (2 * 7)).map ((Value.agg Val.zero.list.toArray).cells[· % (Value.agg Val.zero.list.toArray).cells.size]!)) [(0, .agg x.list.toArray), (1, .agg y.list.toArray)] = some (flat Val.list [x, y]).toArray := by kernel_rfl

/-- A slice of two validators. -/
theorem wpList_two {ops : Array Oper} {rest : List Oper} {o : Oper} {a : Act} {w : World} {Q : Exit → Act → World → Prop} (x y : Val) (p q : Operand) (hg : o.guard = none) (ho : o.op = .buildSlice 34 2 #[(0, p), (1, q)]) (hx : a.eval p = .agg x.list.toArray) (hy : a.eval q = .agg y.list.toArray)
    (h : wpList Try.prog ops Q rest (a.put o.dst (.slice (some ⟨w.heap.size, 0, none⟩) 2 2)) (w.alloc (.cells (flat Val.list [x, y]).toArray 24))) : wpList Try.prog ops Q (o :: rest) a w := by
  obtain ⟨i, hi1, hi2, hi3, hi4⟩ := info_parts Try.infoV
  refine wpList_buildSlice hg 34 24 2 _ ho _ i _ Try.underlying34 hi1 hi2 (by rw [hi3]; decide) (by rw [hi3]; decide) ?_ h
  rw [hi3]
  simp only [List.map_toArray, List.map_cons, List.map_nil, hx, hy]
  exact fill2 x y

set_option maxHeartbeats 8000000 in
theorem mergeChecks_ok (a d : Val) (c : Cfg) (w : World) (ok : c.Ok) (ha : a.Ok) (hd : d.Ok) : Calls Try.prog 3 #[.agg a.list.toArray, .agg d.list.toArray, .agg c.list.toArray] w (Tr w) := by
  have hm : c.maxBal ≤ 1152921504606846976 := by have := ok.h7; have := ok.h5; omega
  have HF := Lib.hid (Vvc.new w a d c)
  have HCk := Lib.hid (fun w => check_any c w)
  have HAl := Lib.hid alive_any
  have HOk := Lib.hid ok
  have HM := Lib.hid (fun w => mcheck_any a d c w ha hd hm)
  have HA := Lib.hid (fun w => apply_any a d c w ha hd hm)
  have HR := Lib.hid (fun w => rcheck_any a d c w ha hd hm)
  clear ok
  go_enter Try.func3, Try.ntmps3
  go_wp2_with (first | ((with_reducible show wpList _ _ _ (_ :: _) _ _); refine wpList_load_cf (.tmp 5) rfl rfl rfl HF.out.hc ?_) | fail)
  refine (HCk.out _).mono ?_
  rintro en w1 ⟨⟨r, rfl, hr⟩, hb⟩
  have HF1 := Lib.hid (HF.out.call hb)
  obtain rfl : r = 0 := hr.2 HOk.out
  clear HF hb hr
  go_wp2_with (first | ((with_reducible show wpList _ _ _ (_ :: _) _ _); first | refine wpList_load_val (.tmp 3) rfl rfl rfl HF1.out.hx ?_ | refine wpList_load_val (.tmp 4) rfl rfl rfl HF1.out.hy ?_ | refine wpList_load_cf (.tmp 5) rfl rfl rfl HF1.out.hc ?_) | fail)
  refine (HM.out _).mono ?_
  rintro en w2 ⟨rfl, hb⟩
  have HF2 := Lib.hid (HF1.out.call hb)
  clear HF1 hb
  go_wp2_with (first | ((with_reducible show wpList _ _ _ (_ :: _) _ _); first | refine wpList_load_val (.tmp 3) rfl rfl rfl HF2.out.hx ?_ | refine wpList_load_val (.tmp 4) rfl rfl rfl HF2.out.hy ?_ | refine wpList_load_cf (.tmp 5) rfl rfl rfl HF2.out.hc ?_) | fail)
  refine (HA.out _).mono ?_
  rintro en w3 ⟨rfl, hb⟩
  have HF3 := Lib.hid (HF2.out.call hb)
  clear HF2 hb
  obtain ⟨x, hx⟩ : ∃ x, x = (if Val.chk a d c = 0 then a.mv1 else Val.zero) := ⟨_, rfl⟩
  obtain ⟨y, hy⟩ : ∃ y, y = (if Val.chk a d c = 0 then a.mv2 d else Val.zero) := ⟨_, rfl⟩
  rw [← hx, ← hy]
  have HX := Lib.hid hx
  have HY := Lib.hid hy
  clear hx hy
  have HU := Lib.hid (Vv.new HF3.out.hb (Nat.le_trans HF3.out.l1 (Nat.le_of_lt HF3.out.hx.lt)) Val.zero Val.zero)
  go_wp2_with (first | ((with_reducible show wpList _ _ _ (_ :: _) _ _); first | refine wpList_store_nb 24 (.tmp 8) (.tmp 26) x.list.toArray rfl rfl rfl rfl HU.out.hx x.info rfl x.oneA ?_ | refine wpList_store_nb 24 (.tmp 9) (.tmp 27) y.list.toArray rfl rfl rfl rfl (HU.out.setX x).hy y.info rfl y.oneA ?_ | ((with_reducible show wpList _ _ _ (⟨some 29, _, _, _, _, _⟩ :: _) _ _); refine halted ?_)) | fail)
  unfold Halted
  generalize hwn : World.setRow (World.setRow _ _ _) _ _ = w4
  have hq : w.heap.size + 2 < w3.heap.size := HF3.out.hc.lt
  have hmc : Mc w.heap.size w.heap.size w3.heap.size w a d c x y w4 := by
    refine ⟨?_, ?_⟩
    · rw [← hwn]; exact (((HF3.out.alloc _).alloc _).setG _ hq).setG _ (by omega)
    · rw [← hwn]; exact (HU.out.setX x).setY y
  have HC := Lib.hid hmc
  clear hmc hwn HU HF3
  generalize w3.heap.size = q at *
  go_wp2_with (first | ((with_reducible show wpList _ _ _ (_ :: _) _ _); first | refine wpList_load_val (.tmp 3) rfl rfl rfl HC.out.v.hx ?_ | refine wpList_load_val (.tmp 4) rfl rfl rfl HC.out.v.hy ?_ | refine wpList_load_cf (.tmp 5) rfl rfl rfl HC.out.v.hc ?_) | fail)
  refine (HR.out _).mono ?_
  rintro en w5 ⟨rfl, hb⟩
  have HC1 := Lib.hid (HC.out.call hb)
  clear HC hb HM HA HR
  by_cases hk : Val.chk a d c = 0
  · have hx : x = a.mv1 := by have := HX.out; rwa [if_pos hk] at this
    have hy : y = a.mv2 d := by have := HY.out; rwa [if_pos hk] at this
    subst hx
    subst hy
    have hmv : Hid (∀ (g : Nat) (w : World), w.rangeAt g 0 (flat Val.list [a, d]) → g < w.heap.size → Calls Try.prog 12 #[.slice (some ⟨g, 0, none⟩) 2 2, .int .i64 0, .int .i64 1] w (PutPost 2 [a.mv1, a.mv2 d] w)) := by
      intro g w h hl
      obtain ⟨-, h2⟩ := chk_zero hk
      exact move_any [a, d] g 0 2 2 0 1 w h hl rfl (by omega) (by omega) (by omega) a d rfl rfl ha.1 hd.1 (by omega)
    rw [hk]
    clear HX HY hk
    go_wp2_with (first | ((with_reducible show wpList _ _ _ (_ :: _) _ _); first | refine wpList_load_val (.tmp 3) rfl rfl rfl HC1.out.v.hx ?_ | refine wpList_load_val (.tmp 4) rfl rfl rfl HC1.out.v.hy ?_ | ((with_reducible show wpList _ _ _ (⟨some 56, _, _, _, _, _⟩ :: _) _ _); refine halted ?_)) | fail)
    unfold Halted
    refine wpList_two a d (.tmp 54) (.tmp 55) rfl rfl rfl rfl ?_
    have hn := Nb.new w5 (.cells (flat Val.list [a, d]).toArray 24)
    have hb0 := (Below.refl w5.heap.size w5).alloc (Nat.le_refl _) (.cells (flat Val.list [a, d]).toArray 24)
    generalize w5.alloc (.cells (flat Val.list [a, d]).toArray 24) = w6 at *
    have hrg : w6.rangeAt w5.heap.size 0 (flat Val.list [a, d]) := fun j v hj => by rw [Nat.zero_add, hn.cell]; simpa using hj
    have hC2 := HC1.out.call hb0
    have HRg := Lib.hid hrg
    have HC2 := Lib.hid hC2
    have hl := hn.lt
    clear hn hb0 hrg hC2 HC1
    go_wp2_with fail
    refine (hmv.out _ _ HRg.out hl).mono ?_
    rintro en w7 ⟨g, c1, rfl, hR7, hc1, hb7⟩
    have hC7 := HC2.out.call hb7
    have hG : McG w.heap.size w.heap.size q g w a d c a.mv1 (a.mv2 d) w7 := by
      obtain ⟨-, h2⟩ := hR7
      rcases h2 with h2 | ⟨b', o', h2, hlt, hrg⟩
      · cases h2
      · simp only [Option.some.injEq, Addr.mk.injEq] at h2
        obtain ⟨rfl, rfl, -⟩ := h2
        have r0 := Row.elem Val.len hrg 0 (by simp)
        have r1 := Row.elem Val.len hrg 1 (by simp)
        exact ⟨hC7, by simpa using r0, by simpa using r1, hlt⟩
    have HG := Lib.hid (McG.call hG (below_drewN (Below.refl _ _) 1))
    clear hR7 hc1 hb7 hC7 hG HC2 HRg hl hmv
    go_wp2_with fail
    refine calm_region (McG w.heap.size w.heap.size q g w a d c a.mv1 (a.mv2 d)) (by kernel_rfl) (by kernel_rfl) HG.out ?_
    refine calm_fn McG.call HAl.out (by rfl) ?f0 ?_
    case f0 => intro w; go_simp
    try simp only [Act.put, List.getElem_toArray, List.getElem_cons_succ, List.getElem_cons_zero, List.setIfInBounds_toArray, List.set_cons_zero, List.set_cons_succ]
    refine calm_val (v := ?v1) (by rfl) ?y1 ?z1
    case y1 => intro w hw; go_simp; (try with_reducible rfl)
    try simp only [Act.put, List.getElem_toArray, List.getElem_cons_succ, List.getElem_cons_zero, List.setIfInBounds_toArray, List.set_cons_zero, List.set_cons_succ]
    refine calm_load 24 (.tmp 8) (by rfl) rfl rfl (fun w hw => hw.1.u.hx) _ Try.underlying24 rfl a.mv1.info ?_
    try simp only [Act.put, List.getElem_toArray, List.getElem_cons_succ, List.getElem_cons_zero, List.setIfInBounds_toArray, List.set_cons_zero, List.set_cons_succ]
    refine calm_val (v := ?v3) (by rfl) ?y3 ?z3
    case y3 => intro w hw; go_simp; (try with_reducible rfl)
    try simp only [Act.put, List.getElem_toArray, List.getElem_cons_succ, List.getElem_cons_zero, List.setIfInBounds_toArray, List.set_cons_zero, List.set_cons_succ]
    refine calm_val (v := ?v4) (by rfl) ?y4 ?z4
    case y4 => intro w hw; go_simp; (try with_reducible rfl)
    try simp only [Act.put, List.getElem_toArray, List.getElem_cons_succ, List.getElem_cons_zero, List.setIfInBounds_toArray, List.set_cons_zero, List.set_cons_succ]
    refine calm_part 24 (.tmp 62) (by rfl) rfl rfl (fun w hw => hw.2.1) _ Try.underlying24 rfl a.mv1.infoL ?_
    try simp only [Act.put, List.getElem_toArray, List.getElem_cons_succ, List.getElem_cons_zero, List.setIfInBounds_toArray, List.set_cons_zero, List.set_cons_succ]
    refine calm_eqv a.mv1 a.mv1 true (.tmp 60) (.tmp 63) _ (by rfl) rfl rfl rfl (by simp) ?_
    try simp only [Act.put, List.getElem_toArray, List.getElem_cons_succ, List.getElem_cons_zero, List.setIfInBounds_toArray, List.set_cons_zero, List.set_cons_succ]
    refine calm_val (v := ?v7) (by rfl) ?y7 ?z7
    case y7 => intro w hw; go_simp; (try with_reducible rfl)
    try simp only [Act.put, List.getElem_toArray, List.getElem_cons_succ, List.getElem_cons_zero, List.setIfInBounds_toArray, List.set_cons_zero, List.set_cons_succ]
    refine calm_val (v := ?v8) (by rfl) ?y8 ?z8
    case y8 => intro w hw; go_simp; (try with_reducible rfl)
    try simp only [Act.put, List.getElem_toArray, List.getElem_cons_succ, List.getElem_cons_zero, List.setIfInBounds_toArray, List.set_cons_zero, List.set_cons_succ]
    refine calm_load 24 (.tmp 9) (by rfl) rfl rfl (fun w hw => hw.1.u.hy) _ Try.underlying24 rfl (a.mv2 d).info ?_
    try simp only [Act.put, List.getElem_toArray, List.getElem_cons_succ, List.getElem_cons_zero, List.setIfInBounds_toArray, List.set_cons_zero, List.set_cons_succ]
    refine calm_val (v := ?v10) (by rfl) ?y10 ?z10
    case y10 => intro w hw; go_simp; (try with_reducible rfl)
    try simp only [Act.put, List.getElem_toArray, List.getElem_cons_succ, List.getElem_cons_zero, List.setIfInBounds_toArray, List.set_cons_zero, List.set_cons_succ]
    refine calm_val (v := ?v11) (by rfl) ?y11 ?z11
    case y11 => intro w hw; go_simp; (try with_reducible rfl)
    try simp only [Act.put, List.getElem_toArray, List.getElem_cons_succ, List.getElem_cons_zero, List.setIfInBounds_toArray, List.set_cons_zero, List.set_cons_succ]
    refine calm_part 24 (.tmp 69) (by rfl) rfl rfl (fun w hw => hw.2.2.1) _ Try.underlying24 rfl (a.mv2 d).infoL ?_
    try simp only [Act.put, List.getElem_toArray, List.getElem_cons_succ, List.getElem_cons_zero, List.setIfInBounds_toArray, List.set_cons_zero, List.set_cons_succ]
    refine calm_eqv (a.mv2 d) (a.mv2 d) true (.tmp 67) (.tmp 70) _ (by rfl) rfl rfl rfl (by simp) ?_
    try simp only [Act.put, List.getElem_toArray, List.getElem_cons_succ, List.getElem_cons_zero, List.setIfInBounds_toArray, List.set_cons_zero, List.set_cons_succ]
    refine calm_val (v := ?v14) (by rfl) ?y14 ?z14
    case y14 => intro w hw; go_simp; (try with_reducible rfl)
    try simp only [Act.put, List.getElem_toArray, List.getElem_cons_succ, List.getElem_cons_zero, List.setIfInBounds_toArray, List.set_cons_zero, List.set_cons_succ]
    refine calm_val (v := ?v15) (by rfl) ?y15 ?z15
    case y15 => intro w hw; go_simp; (try with_reducible rfl)
    try simp only [Act.put, List.getElem_toArray, List.getElem_cons_succ, List.getElem_cons_zero, List.setIfInBounds_toArray, List.set_cons_zero, List.set_cons_succ]
    refine wpQuiet_nil ?_
    intro w8 hw8
    have HW8 := Lib.hid hw8
    clear hw8
    go_wp2_with fail
    go_ret
    exact ⟨rfl, HW8.out.1.u.hb⟩
  · have hx : x = Val.zero := by have := HX.out; rwa [if_neg hk] at this
    have hy : y = Val.zero := by have := HY.out; rwa [if_neg hk] at this
    subst hx
    subst hy
    have hk1 : (Val.chk a d c != 0) = true := by simpa using hk
    clear HX HY hk
    generalize Val.chk a d c = k at *
    go_wp2_with fail
    refine (HAl.out _).mono ?_
    rintro en w6 ⟨rfl, hb⟩
    have HC2 := Lib.hid (HC1.out.call hb)
    clear HC1 hb
    go_wp2_with (first | ((with_reducible show wpList _ _ _ (_ :: _) _ _); first | refine wpList_load_val (.tmp 8) rfl rfl rfl HC2.out.u.hx ?_ | refine wpList_load_val (.tmp 9) rfl rfl rfl HC2.out.u.hy ?_ | refine wpList_eqv Val.zero Val.zero true (.tmp 45) (.tmp 46) _ rfl rfl rfl rfl rfl ?_ | refine wpList_eqv Val.zero Val.zero true (.tmp 50) (.tmp 51) _ rfl rfl rfl rfl rfl ?_) | fail)
    go_ret
    exact ⟨rfl, HC2.out.u.hb⟩

theorem mergeChecks_walk (a d : Val) (c : Cfg) (w : World) (ha : a.Ok) (hd : d.Ok) : Calls Try.prog 3 #[.agg a.list.toArray, .agg d.list.toArray, .agg c.list.toArray] w fun en w' => en = .returned (.bool true) ∧ Below w.heap.size w w' := by
  by_cases ok : c.Ok
  · exact mergeChecks_ok a d c w ok ha hd
  · exact mergeChecks_bad a d c w ok

end Go.Proofs.Ytgmbgomlicamdaa
