/- Chapter 16: status.Next at a step of the table; the conditions of a consolidation. -/
import Derived.Test.YtgmbgomlicamdaaTab
import Derived.Test.YtgmbgomlicamdaaEqv
import Derived.Test.YtgmbgomlicamdaaGw
namespace Go.Proofs.Ytgmbgomlicamdaa
open Go.RowKit Go.Maps
set_option linter.unusedSimpArgs false
set_option linter.unusedVariables false

theorem zero_int (w : World) : (zeroValue 3).run Try.prog w = .ok (.int .i64 0) w := by kernel_rfl

def Next (s e v : Int) : Prop := ∃ i, (i, s, e, v) ∈ steps

set_option maxHeartbeats 1000000 in
theorem next_yes {s e v : Int} (h : Next s e v) (w : World) : Calls Try.prog 24 #[.int .i64 s, .int .i64 e] w fun en w' => en = .returned (.tuple #[.int .i64 v, .bool true]) ∧ Below w.heap.size w w' := by
  obtain ⟨i, hx⟩ := h
  have hk : keyOf Try.prog 69 (stp s e) = some (kl s e) := steps_key _ hx
  have HX := Lib.hid hx
  have HK := Lib.hid hk
  clear hx hk
  go_enter Try.func24, Try.ntmps24
  go_wp2_with fail
  refine (table_any _).mono ?_
  rintro en w1 ⟨b, rfl, ⟨n, D, hown, hm, hat, -⟩, hb⟩
  have ha : D.atKey (kl s e) (.lit (.int .i64 0)) = .lit (.int .i64 v) := hat (i, s, e, v) HX.out _
  have hh : has D (kl s e) = true := has_true_of_atKey (hat (i, s, e, v) HX.out)
  have HO := Lib.hid hown
  have HA := Lib.hid ha
  have HH := Lib.hid hh
  have HB := Lib.hid hb
  clear hown hm hat ha hh hb
  go_wp2_with (first | (at_lookup; go_must (refine wpList_lookup_own_ok_int _ rfl _ _ 66 rfl 69 3 .i64 tab_law Try.underlying66 Try.underlying3 (zero_int _) b n D rfl HO.out _ _ rfl HK.out ?_; intro cc hcc hwc)) | fail)
  rw [HA.out] at hcc
  simp only [DataW.lit.injEq, Lit.int.injEq, true_and] at hcc
  subst hcc
  rw [HH.out]
  clear hwc
  go_wp2_with fail
  go_ret2
  exact ⟨rfl, HB.out⟩



set_option maxHeartbeats 1000000 in
theorem chk1_any (a b : Val) (c : Cfg) (w : World)  : Calls Try.prog 30 #[.agg a.list.toArray, .agg b.list.toArray, .agg c.list.toArray] w fun en w' => en = .returned (.bool (a.st == 2 && b.st == 2)) ∧ Below w.heap.size w w' := by
  have HF := Lib.hid (Vvc.new w a b c)
  have x1 := HF.out.hx.c1
  have y1 := HF.out.hy.c1
  have E := eq_pair a.st b.st 2 2
  go_enter Try.func30, Try.ntmps30
  go_wp2
  go_ret
  exact ⟨rfl, HF.out.hb⟩

set_option maxHeartbeats 1000000 in
theorem chk2_any (a b : Val) (c : Cfg) (w : World)  : Calls Try.prog 31 #[.agg a.list.toArray, .agg b.list.toArray, .agg c.list.toArray] w fun en w' => en = .returned (.bool (!a.sl && !b.sl)) ∧ Below w.heap.size w w' := by
  have HF := Lib.hid (Vvc.new w a b c)
  have x1 := HF.out.hx.c2
  have y1 := HF.out.hy.c2
  cases ha : a.sl
  all_goals
    rw [ha] at x1
    clear ha
    go_enter Try.func31, Try.ntmps31
    go_wp2
    go_ret
    exact ⟨rfl, HF.out.hb⟩

/-- The two balances, laid out for a sum. -/
theorem ints2 (x y : Int) (p : Nat) (w : World) (t : TypeId) (hp : p = w.heap.size) : Ints (w.alloc (.cells #[.int .u64 x, .int .u64 y] t)) .u64 (some ⟨p, 0, none⟩) 2 [x, y] := by
  subst hp
  refine ⟨rfl, .inr ⟨w.heap.size, 0, rfl, fun j hj => ?_⟩⟩
  have hn : (w.alloc (.cells #[.int .u64 x, .int .u64 y] t)).heap[w.heap.size]? = some (.cells #[.int .u64 x, .int .u64 y] t (0, 0)) := heap_alloc_new w _
  rw [cell_of_row _ _ _ _ _ _ hn]
  match j, hj with
  | 0, _ => rfl
  | 1, _ => rfl

set_option maxHeartbeats 1000000 in
theorem chk3_any (a b : Val) (c : Cfg) (w : World) (ha : a.Ok) (hb : b.Ok) (hm : c.maxBal ≤ 1152921504606846976) : Calls Try.prog 32 #[.agg a.list.toArray, .agg b.list.toArray, .agg c.list.toArray] w fun en w' => en = .returned (.bool (decide (a.bal + b.bal ≤ c.maxBal))) ∧ Below w.heap.size w w' := by
  have HF := Lib.hid (Vvc.new w a b c)
  have x1 := HF.out.hx.c0
  have y1 := HF.out.hy.c0
  have z1 := HF.out.hc.c6
  obtain ⟨a0, a1⟩ := ha
  obtain ⟨b0, b1⟩ := hb
  have hz : ∀ x ∈ ([a.bal, b.bal] : List Int), 0 ≤ x ∧ x ≤ 18446744073709551615 := by simp; omega
  have HI := Lib.hid (ints2 a.bal b.bal)
  by_cases hs : a.bal + b.bal ≤ 18446744073709551615
  · have HG := Lib.hid (fun w A cap h => add_fits (w := w) A 2 cap [a.bal, b.bal] (by omega) h hz (by simpa using hs))
    have e1 : List.sum [a.bal, b.bal] = a.bal + b.bal := by simp
    rw [e1] at HG
    have h0 : 0 ≤ a.bal + b.bal := by omega
    clear hz hs a0 a1 b0 b1 e1
    go_enter Try.func32, Try.ntmps32
    go_wp2_with fail
    refine (HG.out _ _ _ ?hi).mono ?_
    case hi => exact HI.out _ _ _ (by simp)
    rintro e w' ⟨rfl, rfl⟩
    go_wp2
    go_ret
    exact ⟨rfl, HF.out.hb.alloc HF.out.hb.size _⟩
  · have HG := Lib.hid (fun w A cap h => add_over (w := w) A 2 cap [a.bal, b.bal] (by omega) h hz (by simp; omega))
    have hd : decide (a.bal + b.bal ≤ c.maxBal) = false := by simp; omega
    rw [hd]
    clear hz hs a0 a1 b0 b1 hd hm
    go_enter Try.func32, Try.ntmps32
    go_wp2_with fail
    refine (HG.out _ _ _ ?hi).mono ?_
    case hi => exact HI.out _ _ _ (by simp)
    rintro e w' ⟨rfl, rfl⟩
    go_wp2
    go_ret
    exact ⟨rfl, HF.out.hb.alloc HF.out.hb.size _⟩

/-- The code of a consolidation's check. -/
def Val.chk (a b : Val) (c : Cfg) : Int := if (a.st == 2 && b.st == 2) = false then 8 else if (!a.sl && !b.sl) = false then 9 else if decide (a.bal + b.bal ≤ c.maxBal) = false then 3 else 0

/-- The checks in their block. -/
def ChksAt (w : World) (g : Nat) : Prop := Nb w g (.cells #[.func (.func 30) #[] #[], .int .i64 8, .func (.func 31) #[] #[], .int .i64 9, .func (.func 32) #[] #[], .int .i64 3] 55 (0, 0))
theorem ChksAt.call {w w' : World} {g : Nat} (h : ChksAt w g) (hb : Below w.heap.size w w') : ChksAt w' g := Nb.call h hb

set_option maxHeartbeats 1000000 in
theorem checks_aux (w : World) : Calls Try.prog 23 #[] w fun en w' => en = .returned (.slice (some ⟨w.heap.size, 0, none⟩) 3 3) ∧ w' = w.alloc (.cells #[.func (.func 30) #[] #[], .int .i64 8, .func (.func 31) #[] #[], .int .i64 9, .func (.func 32) #[] #[], .int .i64 3] 55) := by
  go_enter Try.func23, Try.ntmps23
  go_wp2
  go_ret
  exact ⟨rfl, rfl⟩

theorem checks_any (w : World) : Calls Try.prog 23 #[] w fun en w' => ∃ g, en = .returned (.slice (some ⟨g, 0, none⟩) 3 3) ∧ ChksAt w' g ∧ Below w.heap.size w w' := by
  refine (checks_aux w).mono ?_
  rintro en w' ⟨rfl, rfl⟩
  exact ⟨_, rfl, Nb.new _ _, (Below.refl _ _).alloc (Nat.le_refl _) _⟩

set_option maxHeartbeats 1000000 in
theorem mcheck_any (a b : Val) (c : Cfg) (w : World) (ha : a.Ok) (hb : b.Ok) (hm : c.maxBal ≤ 1152921504606846976) :
    Calls Try.prog 9 #[.agg a.list.toArray, .agg b.list.toArray, .agg c.list.toArray] w fun en w' => en = .returned (.int .i64 (Val.chk a b c)) ∧ Below w.heap.size w w' := by
  have HF := Lib.hid (Vvc.new w a b c)
  have H1 := Lib.hid (fun w => chk1_any a b c w)
  have H2 := Lib.hid (fun w => chk2_any a b c w)
  have H3 := Lib.hid (fun w => chk3_any a b c w ha hb hm)
  clear ha hb hm
  have HR : Hid (Val.chk a b c = if (a.st == 2 && b.st == 2) = false then 8 else if (!a.sl && !b.sl) = false then 9 else if decide (a.bal + b.bal ≤ c.maxBal) = false then 3 else 0) := rfl
  generalize Val.chk a b c = r at *
  generalize (a.st == 2 && b.st == 2) = p1 at *
  generalize (!a.sl && !b.sl) = p2 at *
  generalize decide (a.bal + b.bal ≤ c.maxBal) = p3 at *
  go_enter Try.func9, Try.ntmps9
  go_wp2_with fail
  refine (checks_any _).mono ?_
  rintro en w1 ⟨g, rfl, hg1, hb1⟩
  have hF1 := HF.out.call hb1
  have HG := Lib.hid hg1
  have HF1 := Lib.hid hF1
  clear hg1 hF1 hb1 HF
  have HF := HF1
  clear HF1
  go_wp2_with fail
  refine wp_loop_rounds 4 ?_
  rw [rounds_succ]
  have c0 := (show Nb _ _ _ from HG.out).cell (i := 0)
  have c1 := (show Nb _ _ _ from HG.out).cell (i := 1)
  simp only [List.getElem?_toArray, List.getElem?_cons_succ, List.getElem?_cons_zero] at c0 c1
  go_wp2_with (first | ((with_reducible show wpList _ _ _ (_ :: _) _ _); first | refine wpList_store_last 55 (.tmp 8) (.tmp 14) _ rfl rfl rfl rfl (by kernel_rfl) rfl (by simp [Value.oneCell']) ?_ | refine wpList_load_val (.tmp 3) rfl rfl rfl (HF.out.hx.alloc _) ?_ | refine wpList_load_val (.tmp 4) rfl rfl rfl (HF.out.hy.alloc _) ?_ | refine wpList_load_cf (.tmp 5) rfl rfl rfl (HF.out.hc.alloc _) ?_) | fail)
  refine (H1.out _).mono ?_
  rintro en w2 ⟨rfl, hb⟩
  have hx := (Nb.new w1 (.cells #[.func (.func 30) #[] #[], .int .i64 8] 55)).call hb
  have x1 := hx.cell (i := 1)
  have HF' := Lib.hid ((HF.out.alloc _).call hb)
  have HG' := Lib.hid ((show ChksAt _ _ from Nb.alloc HG.out).call hb)
  clear HF HG hb hx c0 c1
  have HF := HF'
  have HG := HG'
  clear HF' HG'
  cases p1
  · go_wp2_with fail
    go_ret
    exact ⟨ret1 (int_eq (by simpa using HR.out.symm)), HF.out.hb⟩
  clear x1
  go_wp2_with fail
  rw [rounds_succ]
  have c0 := (show Nb _ _ _ from HG.out).cell (i := 2)
  have c1 := (show Nb _ _ _ from HG.out).cell (i := 3)
  simp only [List.getElem?_toArray, List.getElem?_cons_succ, List.getElem?_cons_zero] at c0 c1
  go_wp2_with (first | ((with_reducible show wpList _ _ _ (_ :: _) _ _); first | refine wpList_store_last 55 (.tmp 8) (.tmp 14) _ rfl rfl rfl rfl (by kernel_rfl) rfl (by simp [Value.oneCell']) ?_ | refine wpList_load_val (.tmp 3) rfl rfl rfl (HF.out.hx.alloc _) ?_ | refine wpList_load_val (.tmp 4) rfl rfl rfl (HF.out.hy.alloc _) ?_ | refine wpList_load_cf (.tmp 5) rfl rfl rfl (HF.out.hc.alloc _) ?_) | fail)
  refine (H2.out _).mono ?_
  rintro en w3 ⟨rfl, hb⟩
  have hx := (Nb.new w2 (.cells #[.func (.func 31) #[] #[], .int .i64 9] 55)).call hb
  have x1 := hx.cell (i := 1)
  have HF' := Lib.hid ((HF.out.alloc _).call hb)
  have HG' := Lib.hid ((show ChksAt _ _ from Nb.alloc HG.out).call hb)
  clear HF HG hb hx c0 c1
  have HF := HF'
  have HG := HG'
  clear HF' HG'
  cases p2
  · go_wp2_with fail
    go_ret
    exact ⟨ret1 (int_eq (by simpa using HR.out.symm)), HF.out.hb⟩
  clear x1
  go_wp2_with fail
  rw [rounds_succ]
  have c0 := (show Nb _ _ _ from HG.out).cell (i := 4)
  have c1 := (show Nb _ _ _ from HG.out).cell (i := 5)
  simp only [List.getElem?_toArray, List.getElem?_cons_succ, List.getElem?_cons_zero] at c0 c1
  go_wp2_with (first | ((with_reducible show wpList _ _ _ (_ :: _) _ _); first | refine wpList_store_last 55 (.tmp 8) (.tmp 14) _ rfl rfl rfl rfl (by kernel_rfl) rfl (by simp [Value.oneCell']) ?_ | refine wpList_load_val (.tmp 3) rfl rfl rfl (HF.out.hx.alloc _) ?_ | refine wpList_load_val (.tmp 4) rfl rfl rfl (HF.out.hy.alloc _) ?_ | refine wpList_load_cf (.tmp 5) rfl rfl rfl (HF.out.hc.alloc _) ?_) | fail)
  refine (H3.out _).mono ?_
  rintro en w4 ⟨rfl, hb⟩
  have hx := (Nb.new w3 (.cells #[.func (.func 32) #[] #[], .int .i64 3] 55)).call hb
  have x1 := hx.cell (i := 1)
  have HF' := Lib.hid ((HF.out.alloc _).call hb)
  have HG' := Lib.hid ((show ChksAt _ _ from Nb.alloc HG.out).call hb)
  clear HF HG hb hx c0 c1
  have HF := HF'
  have HG := HG'
  clear HF' HG'
  cases p3
  · go_wp2_with fail
    go_ret
    exact ⟨ret1 (int_eq (by simpa using HR.out.symm)), HF.out.hb⟩
  clear x1
  go_wp2_with fail
  rw [rounds_succ]
  go_wp2_with fail
  go_ret
  exact ⟨ret1 (int_eq (by simpa using HR.out.symm)), HF.out.hb⟩

end Go.Proofs.Ytgmbgomlicamdaa
