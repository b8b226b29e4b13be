/- Chapter 16: the walk of MergeRequests. -/
import Derived.Test.YtgmbgomlicamdaaMgG
import Derived.Test.YtgmbgomlicamdaaMgF
namespace Go.Proofs.Ytgmbgomlicamdaa
open Go.RowKit Go.Maps
set_option linter.unusedSimpArgs false
set_option linter.unusedVariables false
set_option maxRecDepth 20000

/-- A pair and a configuration boxed at p; a row of validators that came in. -/
def RqL (b p : Nat) (w0 : World) (x y : Int) (c : Cfg) (vs : List Val) (A : Option Addr) (n : Nat) (w : World) : Prop :=
  Nb w p (.cells #[.int .i64 x, .int .i64 y] 37 (0, 0)) ∧ CfgAt w (p + 1) c ∧ Below b w0 w ∧ b ≤ p ∧ Vals w A n vs
theorem RqL.call {b p : Nat} {w0 w w' : World} {x y : Int} {c : Cfg} {vs : List Val} {A : Option Addr} {n : Nat} (h : RqL b p w0 x y c vs A n w) (hb : Below w.heap.size w w') : RqL b p w0 x y c vs A n w' :=
  ⟨h.1.call hb, h.2.1.call hb, h.2.2.1.trans (hb.mono (by have := h.1.lt; have := h.2.2.2.1; omega)), h.2.2.2.1, h.2.2.2.2.call hb⟩
theorem RqL.new (w : World) (x y : Int) (c : Cfg) {vs : List Val} {A : Option Addr} {n : Nat} (h : Vals w A n vs) : RqL w.heap.size w.heap.size w x y c vs A n ((w.alloc (.cells #[.int .i64 x, .int .i64 y] 37)).alloc (.cells c.list.toArray 26)) := by
  have h1 := (Below.refl w.heap.size w).alloc (Nat.le_refl _) (.cells #[.int .i64 x, .int .i64 y] 37)
  refine ⟨Nb.alloc (Nb.new _ _), ?_, h1.alloc h1.size _, Nat.le_refl _, (h.alloc _).alloc _⟩
  have := CfgAt.new (w.alloc (.cells #[.int .i64 x, .int .i64 y] 37)) c
  simpa using this

set_option maxHeartbeats 4000000 in
theorem mergeRequests_bad (A : Option Addr) (n cap : Nat) (x y : Int) (c : Cfg) (w : World) (hn : n ≤ 9223372036854775807) (nok : ¬ c.Ok ∨ 60 < n) : Calls Try.prog 4 #[.slice A n cap, .agg #[.int .i64 x, .int .i64 y], .agg c.list.toArray] w (Tr w) := by
  have HF := Lib.hid (RqL.new w x y c (vs := []) (A := none) (n := 0) ⟨rfl, .inl rfl⟩)
  have HCk := Lib.hid (fun w => check_any c w)
  have HAl := Lib.hid alive_any
  have HNk := Lib.hid nok
  clear nok
  go_enter Try.func4, Try.ntmps4
  go_wp2_with (first | ((with_reducible show wpList _ _ _ (_ :: _) _ _); refine wpList_load_cf (.tmp 5) rfl rfl rfl HF.out.2.1 ?_) | fail)
  refine (HCk.out _).mono ?_
  rintro en w1 ⟨⟨r, rfl, hr⟩, hb⟩
  have hc := HF.out.call hb
  have HB := Lib.hid hc.2.2.1
  clear HF hb hc
  by_cases hr0 : r = 0
  · have h60 : 60 < n := by
      rcases HNk.out with h | h
      · exact absurd (hr.1 hr0) h
      · exact h
    subst hr0
    clear hr HNk
    go_wp2_with fail
    refine (HAl.out _).mono ?_
    rintro en w2 ⟨rfl, hb⟩
    have HB2 := Lib.hid (HB.out.trans (hb.mono HB.out.size))
    clear hb HB
    go_wp2
    go_ret
    exact ⟨rfl, HB2.out⟩
  · have hr1 : (r != 0) = true := by simpa using hr0
    clear hr hr0 HNk
    go_wp2_with fail
    refine (HAl.out _).mono ?_
    rintro en w2 ⟨rfl, hb⟩
    have HB2 := Lib.hid (HB.out.trans (hb.mono HB.out.size))
    clear hb HB
    go_wp2
    go_ret
    exact ⟨rfl, HB2.out⟩

set_option maxHeartbeats 8000000 in
theorem mergeRequests_ok (vs : List Val) (A : Option Addr) (n cap : Nat) (x y : Int) (c : Cfg) (w : World) (hR : Vals w A n vs) (hn : n ≤ 60) (hok : ∀ v ∈ vs, v.Ok) (ok : c.Ok) : Calls Try.prog 4 #[.slice A n cap, .agg #[.int .i64 x, .int .i64 y], .agg c.list.toArray] w (Tr w) := by
  have hm : c.maxBal ≤ 1152921504606846976 := by have := ok.h7; have := ok.h5; omega
  have HF := Lib.hid (RqL.new w x y c hR)
  have HCk := Lib.hid (fun w => check_any c w)
  have HAl := Lib.hid alive_any
  have HOk := Lib.hid ok
  have HM := Lib.hid (fun (w' : World) (hw : RqL w.heap.size w.heap.size w x y c vs A n w') => mreq_any vs A n cap x y c w' hw.2.2.2.2 (by omega) hok hm)
  have HR := Lib.hid (fun (w' : World) (hw : RqL w.heap.size w.heap.size w x y c vs A n w') => rreq_any vs A n cap x y c w' hw.2.2.2.2 (by omega) hok hm)
  generalize reqCode vs x y c = k at *
  clear ok hR hok hm
  go_enter Try.func4, Try.ntmps4
  go_wp2_with (first | ((with_reducible show wpList _ _ _ (_ :: _) _ _); refine wpList_load_cf (.tmp 5) rfl rfl rfl HF.out.2.1 ?_) | fail)
  refine (HCk.out _).mono ?_
  rintro en w1 ⟨⟨r, rfl, hr⟩, hb⟩
  have HF1 := Lib.hid (HF.out.call hb)
  obtain rfl : r = 0 := hr.2 HOk.out
  clear HF hb hr HOk HCk
  go_wp2_with fail
  refine calm_region (RqL w.heap.size w.heap.size w x y c vs A n) (by kernel_rfl) (by kernel_rfl) (HF1.out.call (below_drewN (Below.refl _ _) 1)) ?_
  refine calm_fn RqL.call HAl.out (by rfl) ?f0 ?_
  case f0 => intro w; go_simp
  try simp only [Act.put, List.getElem_toArray, List.getElem_cons_succ, List.getElem_cons_zero, List.setIfInBounds_toArray, List.set_cons_zero, List.set_cons_succ]
  refine calm_val (v := ?v1) (by rfl) ?y1 ?z1
  case y1 => intro w hw; go_simp; (try with_reducible rfl)
  try simp only [Act.put, List.getElem_toArray, List.getElem_cons_succ, List.getElem_cons_zero, List.setIfInBounds_toArray, List.set_cons_zero, List.set_cons_succ]
  refine calm_val (v := ?v2) (by rfl) ?y2 ?z2
  case y2 => intro w hw; go_simp; (try with_reducible rfl)
  try simp only [Act.put, List.getElem_toArray, List.getElem_cons_succ, List.getElem_cons_zero, List.setIfInBounds_toArray, List.set_cons_zero, List.set_cons_succ]
  refine calm_val (v := ?v3) (by rfl) ?y3 ?z3
  case y3 => intro w hw; go_simp; (try with_reducible rfl)
  try simp only [Act.put, List.getElem_toArray, List.getElem_cons_succ, List.getElem_cons_zero, List.setIfInBounds_toArray, List.set_cons_zero, List.set_cons_succ]
  refine calm_val (v := ?v4) (by rfl) ?y4 ?z4
  case y4 => intro w hw; have e := (hw.1).cell (i := 0); simp only [List.getElem?_toArray, List.getElem?_cons_zero, List.getElem?_cons_succ] at e; go_simp; (try with_reducible rfl)
  try simp only [Act.put, List.getElem_toArray, List.getElem_cons_succ, List.getElem_cons_zero, List.setIfInBounds_toArray, List.set_cons_zero, List.set_cons_succ]
  refine calm_val (v := ?v5) (by rfl) ?y5 ?z5
  case y5 => intro w hw; go_simp; (try with_reducible rfl)
  try simp only [Act.put, List.getElem_toArray, List.getElem_cons_succ, List.getElem_cons_zero, List.setIfInBounds_toArray, List.set_cons_zero, List.set_cons_succ]
  refine calm_val (v := ?v6) (by rfl) ?y6 ?z6
  case y6 => intro w hw; have e := (hw.1).cell (i := 1); simp only [List.getElem?_toArray, List.getElem?_cons_zero, List.getElem?_cons_succ] at e; go_simp; (try with_reducible rfl)
  try simp only [Act.put, List.getElem_toArray, List.getElem_cons_succ, List.getElem_cons_zero, List.setIfInBounds_toArray, List.set_cons_zero, List.set_cons_succ]
  refine calm_load 26 (.tmp 5) (by rfl) rfl rfl (fun w hw => hw.2.1) _ Try.underlying26 rfl (by show _ = some 20; kernel_rfl) ?_
  try simp only [Act.put, List.getElem_toArray, List.getElem_cons_succ, List.getElem_cons_zero, List.setIfInBounds_toArray, List.set_cons_zero, List.set_cons_succ]
  refine calm_fnC RqL.call HM.out (by rfl) ?f8 ?_
  case f8 => intro w; go_simp
  try simp only [Act.put, List.getElem_toArray, List.getElem_cons_succ, List.getElem_cons_zero, List.setIfInBounds_toArray, List.set_cons_zero, List.set_cons_succ]
  refine calm_val (v := ?v9) (by rfl) ?y9 ?z9
  case y9 => intro w hw; go_simp; (try with_reducible rfl)
  try simp only [Act.put, List.getElem_toArray, List.getElem_cons_succ, List.getElem_cons_zero, List.setIfInBounds_toArray, List.set_cons_zero, List.set_cons_succ]
  refine calm_val (v := ?v10) (by rfl) ?y10 ?z10
  case y10 => intro w hw; go_simp; (try with_reducible rfl)
  try simp only [Act.put, List.getElem_toArray, List.getElem_cons_succ, List.getElem_cons_zero, List.setIfInBounds_toArray, List.set_cons_zero, List.set_cons_succ]
  refine calm_val (v := ?v11) (by rfl) ?y11 ?z11
  case y11 => intro w hw; have e := (hw.1).cell (i := 0); simp only [List.getElem?_toArray, List.getElem?_cons_zero, List.getElem?_cons_succ] at e; go_simp; (try with_reducible rfl)
  try simp only [Act.put, List.getElem_toArray, List.getElem_cons_succ, List.getElem_cons_zero, List.setIfInBounds_toArray, List.set_cons_zero, List.set_cons_succ]
  refine calm_val (v := ?v12) (by rfl) ?y12 ?z12
  case y12 => intro w hw; go_simp; (try with_reducible rfl)
  try simp only [Act.put, List.getElem_toArray, List.getElem_cons_succ, List.getElem_cons_zero, List.setIfInBounds_toArray, List.set_cons_zero, List.set_cons_succ]
  refine calm_val (v := ?v13) (by rfl) ?y13 ?z13
  case y13 => intro w hw; have e := (hw.1).cell (i := 1); simp only [List.getElem?_toArray, List.getElem?_cons_zero, List.getElem?_cons_succ] at e; go_simp; (try with_reducible rfl)
  try simp only [Act.put, List.getElem_toArray, List.getElem_cons_succ, List.getElem_cons_zero, List.setIfInBounds_toArray, List.set_cons_zero, List.set_cons_succ]
  refine calm_load 26 (.tmp 5) (by rfl) rfl rfl (fun w hw => hw.2.1) _ Try.underlying26 rfl (by show _ = some 20; kernel_rfl) ?_
  try simp only [Act.put, List.getElem_toArray, List.getElem_cons_succ, List.getElem_cons_zero, List.setIfInBounds_toArray, List.set_cons_zero, List.set_cons_succ]
  refine calm_fnC RqL.call HR.out (by rfl) ?f15 ?_
  case f15 => intro w; go_simp
  try simp only [Act.put, List.getElem_toArray, List.getElem_cons_succ, List.getElem_cons_zero, List.setIfInBounds_toArray, List.set_cons_zero, List.set_cons_succ]
  refine calm_val (v := ?v16) (by rfl) ?y16 ?z16
  case y16 => intro w hw; go_simp; (try with_reducible rfl)
  try simp only [Act.put, List.getElem_toArray, List.getElem_cons_succ, List.getElem_cons_zero, List.setIfInBounds_toArray, List.set_cons_zero, List.set_cons_succ]
  refine calm_val (v := ?v17) (by rfl) ?y17 ?z17
  case y17 => intro w hw; go_simp; (try with_reducible rfl)
  try simp only [Act.put, List.getElem_toArray, List.getElem_cons_succ, List.getElem_cons_zero, List.setIfInBounds_toArray, List.set_cons_zero, List.set_cons_succ]
  refine calm_val (v := ?v18) (by rfl) ?y18 ?z18
  case y18 => intro w hw; go_simp; (try with_reducible rfl)
  try simp only [Act.put, List.getElem_toArray, List.getElem_cons_succ, List.getElem_cons_zero, List.setIfInBounds_toArray, List.set_cons_zero, List.set_cons_succ]
  refine wpQuiet_nil ?_
  intro w8 hw8
  have HW8 := Lib.hid hw8
  clear hw8
  go_wp2_with fail
  go_ret
  exact ⟨rfl, HW8.out.2.2.1⟩

theorem mergeRequests_walk (vs : List Val) (A : Option Addr) (n cap : Nat) (x y : Int) (c : Cfg) (w : World) (hR : Vals w A n vs) (hn : n ≤ 9223372036854775807) (hok : ∀ v ∈ vs, v.Ok) : Calls Try.prog 4 #[.slice A n cap, .agg #[.int .i64 x, .int .i64 y], .agg c.list.toArray] w fun en w' => en = .returned (.bool true) ∧ Below w.heap.size w w' := by
  by_cases h : ¬ c.Ok ∨ 60 < n
  · exact mergeRequests_bad A n cap x y c w hn h
  · exact mergeRequests_ok vs A n cap x y c w hR (by omega) hok (by
      by_cases ok : c.Ok
      · exact ok
      · exact absurd (.inl ok) h)

end Go.Proofs.Ytgmbgomlicamdaa
