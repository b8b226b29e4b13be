/- Chapter 16: the examples hold. -/
import Derived.Test.YtgmbgomlicamdaaMgC
import Derived.Test.YtgmbgomlicamdaaDflt
import Derived.Test.YtgmbgomlicamdaaCalm
namespace Go.Proofs.Ytgmbgomlicamdaa
open Go.RowKit Go.Maps
set_option linter.unusedSimpArgs false
set_option linter.unusedVariables false
set_option maxRecDepth 20000

/-- An active validator of the examples. -/
def Val.act (b : Int) : Val := ⟨b, 2, false, 0, 0, 0, 0⟩

set_option maxHeartbeats 1000000 in
theorem alive1_any (b : Int) (w : World) : Calls Try.prog 21 #[.int .u64 b] w fun en w' => en = .returned (.agg (Val.act b).list.toArray) ∧ Below w.heap.size w w' := by
  have HN := Lib.hid (ValAt.new w (Val.act b))
  have HB : Hid (Below w.heap.size w (w.alloc (.cells (Val.act b).list.toArray 24))) := (Below.refl _ _).alloc (Nat.le_refl _) _
  go_enter Try.func21, Try.ntmps21
  go_wp2_with (first | ((with_reducible show wpList _ _ _ [_] _ (World.alloc _ _)); refine halted ?_) | fail)
  unfold Halted
  refine wpList_store_last 24 (.tmp 2) (.tmp 4) (Val.act b).list.toArray rfl rfl rfl rfl (Val.act b).info rfl (Val.act b).oneA ?_
  generalize (w.alloc (.cells (Val.act b).list.toArray 24)) = w1 at *
  go_wp2_with fail
  refine bodyPost_ret (results_c1 rfl rfl HN.out _ Try.underlying24 rfl (Val.act b).info) rfl ?_
  exact ⟨rfl, HB.out⟩

theorem al_chk1 : Val.chk (Val.act 50) (Val.act 60) dflt = 0 := by decide
theorem al_chk2 : Val.chk (Val.act 70) (Val.act 60) dflt = 3 := by decide
theorem al_ok (b : Int) (h : 0 ≤ b) (h' : b ≤ 1000) : (Val.act b).Ok := ⟨h, by show b ≤ _; omega⟩

/-- Two validators in their blocks; what is older than b is as it was. -/
structure Vv (b p : Nat) (w0 : World) (x y : Val) (w : World) : Prop where
  hb : Below b w0 w
  hx : ValAt w p x
  hy : ValAt w (p + 1) y
  l1 : b ≤ p
theorem Vv.call {b p : Nat} {w0 w w' : World} {x y : Val} (h : Vv b p w0 x y w) (hb : Below w.heap.size w w') : Vv b p w0 x y w' :=
  ⟨h.hb.trans (hb.mono (by have := h.hx.lt; have := h.l1; omega)), h.hx.call hb, h.hy.call hb, h.l1⟩
theorem Vv.drew {b p : Nat} {w0 w : World} {x y : Val} (h : Vv b p w0 x y w) : Vv b p w0 x y w.drew := h.call (below_drewN (Below.refl _ _) 1)
theorem Vv.new {b : Nat} {w0 w : World} (h : Below b w0 w) (hb : b ≤ w.heap.size) (x y : Val) : Vv b w.heap.size w0 x y ((w.alloc (.cells x.list.toArray 24)).alloc (.cells y.list.toArray 24)) := by
  have h1 := h.alloc hb (.cells x.list.toArray 24)
  refine ⟨h1.alloc (by simp; omega) _, (ValAt.new _ _).alloc _, ?_, hb⟩
  have := ValAt.new (w.alloc (.cells x.list.toArray 24)) y
  simpa using this
theorem Vv.setX {b p : Nat} {w0 w : World} {x y : Val} (h : Vv b p w0 x y w) (x' : Val) : Vv b p w0 x' y (w.setRow p x'.list.toArray) := ⟨below_setRow h.hb h.l1 _, Nb.same h.hx, Nb.other h.hy (by omega), h.l1⟩
theorem Vv.setY {b p : Nat} {w0 w : World} {x y : Val} (h : Vv b p w0 x y w) (y' : Val) : Vv b p w0 x y' (w.setRow (p + 1) y'.list.toArray) := ⟨below_setRow h.hb (by have := h.l1; omega) _, Nb.other h.hx (by omega), Nb.same h.hy, h.l1⟩

set_option maxHeartbeats 2000000 in
theorem alive_any (w : World) : Calls Try.prog 8 #[] w fun en w' => en = .returned (.bool true) ∧ Below w.heap.size w w' := by
  have H50 := Lib.hid (alive1_any 50)
  have H60 := Lib.hid (alive1_any 60)
  have H110 := Lib.hid (alive1_any 110)
  have H70 := Lib.hid (alive1_any 70)
  have HD := Lib.hid (fun w => default_any w)
  have HK := Lib.hid (fun w => mcheck_any (Val.act 70) (Val.act 60) dflt w (al_ok 70 (by decide) (by decide)) (al_ok 60 (by decide) (by decide)) (by decide))
  rw [al_chk2] at HK
  have HA := Lib.hid (fun w => apply_any (Val.act 50) (Val.act 60) dflt w (al_ok 50 (by decide) (by decide)) (al_ok 60 (by decide) (by decide)) (by decide))
  rw [al_chk1] at HA
  go_enter Try.func8, Try.ntmps8
  go_wp2_with fail
  refine (H50.out _).mono ?_
  rintro en w1 ⟨rfl, hb1⟩
  have HB1 := Lib.hid hb1
  clear hb1
  go_wp2_with fail
  refine (H60.out _).mono ?_
  rintro en w2 ⟨rfl, hb2⟩
  have HB2 := Lib.hid (HB1.out.trans (hb2.mono HB1.out.size))
  clear hb2 HB1
  go_wp2_with fail
  refine (HD.out _).mono ?_
  rintro en w3 ⟨rfl, hb3⟩
  have HB3 := Lib.hid (HB2.out.trans (hb3.mono HB2.out.size))
  clear hb3 HB2
  go_wp2_with fail
  refine (HA.out _).mono ?_
  rintro en w4 ⟨rfl, hb4⟩
  have HB4 := Lib.hid (HB3.out.trans (hb4.mono HB3.out.size))
  clear hb4 HB3 HA H50
  rw [if_pos rfl, if_pos rfl]
  have HS := Lib.hid (Vv.new HB4.out HB4.out.size Val.zero Val.zero)
  go_wp2_with (first | ((with_reducible show wpList _ _ _ (_ :: _) _ _); first | refine wpList_store_nb 24 (.tmp 2) (.tmp 12) (Val.mv1 (Val.act 50)).list.toArray rfl rfl rfl rfl HS.out.hx (Val.mv1 (Val.act 50)).info rfl (Val.mv1 (Val.act 50)).oneA ?_ | refine wpList_store_nb 24 (.tmp 3) (.tmp 13) (Val.mv2 (Val.act 50) (Val.act 60)).list.toArray rfl rfl rfl rfl (HS.out.setX (Val.mv1 (Val.act 50))).hy (Val.mv2 (Val.act 50) (Val.act 60)).info rfl (Val.mv2 (Val.act 50) (Val.act 60)).oneA ?_) | fail)
  have HS2 := Lib.hid ((HS.out.setX (Val.mv1 (Val.act 50))).setY (Val.mv2 (Val.act 50) (Val.act 60)))
  clear HS HB4
  refine calm_region (Vv w.heap.size w4.heap.size w (Val.mv1 (Val.act 50)) (Val.mv2 (Val.act 50) (Val.act 60))) (by kernel_rfl) (by kernel_rfl) HS2.out.drew ?_
  refine calm_val (v := ?v0) (by rfl) ?y0 ?z0
  case y0 => intro w hw; go_simp; (try with_reducible rfl)
  try simp only [Act.put, List.getElem_toArray, List.getElem_cons_succ, List.getElem_cons_zero, List.setIfInBounds_toArray, List.set_cons_zero, List.set_cons_succ]
  refine calm_val (v := ?v1) (by rfl) ?y1 ?z1
  case y1 => intro w hw; go_simp; (try with_reducible rfl)
  try simp only [Act.put, List.getElem_toArray, List.getElem_cons_succ, List.getElem_cons_zero, List.setIfInBounds_toArray, List.set_cons_zero, List.set_cons_succ]
  refine calm_val (v := ?v2) (by rfl) ?y2 ?z2
  case y2 => intro w hw; go_simp; (try with_reducible rfl)
  try simp only [Act.put, List.getElem_toArray, List.getElem_cons_succ, List.getElem_cons_zero, List.setIfInBounds_toArray, List.set_cons_zero, List.set_cons_succ]
  refine calm_load 24 (.tmp 2) (by rfl) rfl rfl (fun w hw => Vv.hx hw) _ Try.underlying24 rfl (Val.mv1 (Val.act 50)).info ?_
  try simp only [Act.put, List.getElem_toArray, List.getElem_cons_succ, List.getElem_cons_zero, List.setIfInBounds_toArray, List.set_cons_zero, List.set_cons_succ]
  refine calm_val (v := ?v4) (by rfl) ?y4 ?z4
  case y4 => intro w hw; go_simp; (try with_reducible rfl)
  try simp only [Act.put, List.getElem_toArray, List.getElem_cons_succ, List.getElem_cons_zero, List.setIfInBounds_toArray, List.set_cons_zero, List.set_cons_succ]
  refine calm_eqv (Val.mv1 (Val.act 50)) ⟨0, 7, false, 0, 0, 0, 0⟩ true (.tmp 18) (.tmp 19) _ (by rfl) rfl rfl rfl (by decide) ?_
  try simp only [Act.put, List.getElem_toArray, List.getElem_cons_succ, List.getElem_cons_zero, List.setIfInBounds_toArray, List.set_cons_zero, List.set_cons_succ]
  refine calm_val (v := ?v6) (by rfl) ?y6 ?z6
  case y6 => intro w hw; go_simp; (try with_reducible rfl)
  try simp only [Act.put, List.getElem_toArray, List.getElem_cons_succ, List.getElem_cons_zero, List.setIfInBounds_toArray, List.set_cons_zero, List.set_cons_succ]
  refine calm_val (v := ?v7) (by rfl) ?y7 ?z7
  case y7 => intro w hw; go_simp; (try with_reducible rfl)
  try simp only [Act.put, List.getElem_toArray, List.getElem_cons_succ, List.getElem_cons_zero, List.setIfInBounds_toArray, List.set_cons_zero, List.set_cons_succ]
  refine calm_load 24 (.tmp 3) (by rfl) rfl rfl (fun w hw => Vv.hy hw) _ Try.underlying24 rfl (Val.mv2 (Val.act 50) (Val.act 60)).info ?_
  try simp only [Act.put, List.getElem_toArray, List.getElem_cons_succ, List.getElem_cons_zero, List.setIfInBounds_toArray, List.set_cons_zero, List.set_cons_succ]
  refine calm_val (v := ?v9) (by rfl) ?y9 ?z9
  case y9 => intro w hw; go_simp; (try with_reducible rfl)
  try simp only [Act.put, List.getElem_toArray, List.getElem_cons_succ, List.getElem_cons_zero, List.setIfInBounds_toArray, List.set_cons_zero, List.set_cons_succ]
  refine calm_fn Vv.call H110.out (by rfl) ?f10 ?_
  case f10 => intro w; go_simp
  try simp only [Act.put, List.getElem_toArray, List.getElem_cons_succ, List.getElem_cons_zero, List.setIfInBounds_toArray, List.set_cons_zero, List.set_cons_succ]
  refine calm_eqv (Val.mv2 (Val.act 50) (Val.act 60)) (Val.act 110) true (.tmp 23) (.tmp 25) _ (by rfl) rfl rfl rfl (by decide) ?_
  try simp only [Act.put, List.getElem_toArray, List.getElem_cons_succ, List.getElem_cons_zero, List.setIfInBounds_toArray, List.set_cons_zero, List.set_cons_succ]
  refine calm_val (v := ?v12) (by rfl) ?y12 ?z12
  case y12 => intro w hw; go_simp; (try with_reducible rfl)
  try simp only [Act.put, List.getElem_toArray, List.getElem_cons_succ, List.getElem_cons_zero, List.setIfInBounds_toArray, List.set_cons_zero, List.set_cons_succ]
  refine calm_val (v := ?v13) (by rfl) ?y13 ?z13
  case y13 => intro w hw; go_simp; (try with_reducible rfl)
  try simp only [Act.put, List.getElem_toArray, List.getElem_cons_succ, List.getElem_cons_zero, List.setIfInBounds_toArray, List.set_cons_zero, List.set_cons_succ]
  refine calm_val (v := ?v14) (by rfl) ?y14 ?z14
  case y14 => intro w hw; go_simp; (try with_reducible rfl)
  try simp only [Act.put, List.getElem_toArray, List.getElem_cons_succ, List.getElem_cons_zero, List.setIfInBounds_toArray, List.set_cons_zero, List.set_cons_succ]
  refine calm_fn Vv.call H70.out (by rfl) ?f15 ?_
  case f15 => intro w; go_simp
  try simp only [Act.put, List.getElem_toArray, List.getElem_cons_succ, List.getElem_cons_zero, List.setIfInBounds_toArray, List.set_cons_zero, List.set_cons_succ]
  refine calm_val (v := ?v16) (by rfl) ?y16 ?z16
  case y16 => intro w hw; go_simp; (try with_reducible rfl)
  try simp only [Act.put, List.getElem_toArray, List.getElem_cons_succ, List.getElem_cons_zero, List.setIfInBounds_toArray, List.set_cons_zero, List.set_cons_succ]
  refine calm_fn Vv.call H60.out (by rfl) ?f17 ?_
  case f17 => intro w; go_simp
  try simp only [Act.put, List.getElem_toArray, List.getElem_cons_succ, List.getElem_cons_zero, List.setIfInBounds_toArray, List.set_cons_zero, List.set_cons_succ]
  refine calm_fn Vv.call HD.out (by rfl) ?f18 ?_
  case f18 => intro w; go_simp
  try simp only [Act.put, List.getElem_toArray, List.getElem_cons_succ, List.getElem_cons_zero, List.setIfInBounds_toArray, List.set_cons_zero, List.set_cons_succ]
  refine calm_fn Vv.call HK.out (by rfl) ?f19 ?_
  case f19 => intro w; go_simp
  try simp only [Act.put, List.getElem_toArray, List.getElem_cons_succ, List.getElem_cons_zero, List.setIfInBounds_toArray, List.set_cons_zero, List.set_cons_succ]
  refine calm_val (v := ?v20) (by rfl) ?y20 ?z20
  case y20 => intro w hw; go_simp; (try with_reducible rfl)
  try simp only [Act.put, List.getElem_toArray, List.getElem_cons_succ, List.getElem_cons_zero, List.setIfInBounds_toArray, List.set_cons_zero, List.set_cons_succ]
  refine calm_val (v := ?v21) (by rfl) ?y21 ?z21
  case y21 => intro w hw; go_simp; (try with_reducible rfl)
  try simp only [Act.put, List.getElem_toArray, List.getElem_cons_succ, List.getElem_cons_zero, List.setIfInBounds_toArray, List.set_cons_zero, List.set_cons_succ]
  refine calm_val (v := ?v22) (by rfl) ?y22 ?z22
  case y22 => intro w hw; go_simp; (try with_reducible rfl)
  try simp only [Act.put, List.getElem_toArray, List.getElem_cons_succ, List.getElem_cons_zero, List.setIfInBounds_toArray, List.set_cons_zero, List.set_cons_succ]
  refine wpQuiet_nil ?_
  intro w6 hw6
  have HW6 := Lib.hid hw6
  clear hw6
  go_wp2_with fail
  go_ret
  exact ⟨rfl, HW6.out.hb⟩

end Go.Proofs.Ytgmbgomlicamdaa
