/- Chapter 16: Request, the program's and the reference's. -/
import Derived.Test.YtgmbgomlicamdaaMgE
namespace Go.Proofs.Ytgmbgomlicamdaa
open Go.RowKit Go.Maps
set_option linter.unusedSimpArgs false
set_option linter.unusedVariables false
set_option maxRecDepth 20000

theorem vals_some {w : World} {A : Option Addr} {n : Nat} {vs : List Val} (h : Vals w A n vs) (hn : 0 < n) : ∃ b o, A = some ⟨b, o, none⟩ ∧ b < w.heap.size ∧ w.rangeAt b o (flat Val.list vs) := by
  obtain ⟨h1, h2⟩ := h
  rcases h2 with h2 | h2
  · subst h2; simp at h1; omega
  · exact h2

/-- A configuration in its block, two validators in a row. -/
def RqC (bb p b o1 o2 : Nat) (w0 : World) (c : Cfg) (x y : Val) (w : World) : Prop := (CfgAt w p c ∧ Below bb w0 w ∧ bb ≤ p) ∧ w.rangeAt b o1 x.list ∧ w.rangeAt b o2 y.list ∧ b < w.heap.size
theorem RqC.call {bb p b o1 o2 : Nat} {w0 w w' : World} {c : Cfg} {x y : Val} (h : RqC bb p b o1 o2 w0 c x y w) (hb : Below w.heap.size w w') : RqC bb p b o1 o2 w0 c x y w' :=
  ⟨⟨h.1.1.call hb, h.1.2.1.trans (hb.mono (by have := h.1.1.lt; have := h.1.2.2; omega)), h.1.2.2⟩, range_call h.2.1 h.2.2.2 hb, range_call h.2.2.1 h.2.2.2 hb, Nat.lt_of_lt_of_le h.2.2.2 hb.size⟩
theorem rq_new {w : World} {n b o s d : Nat} {vs : List Val} (hlen : n = vs.length) (hbl : b < w.heap.size) (hg : w.rangeAt b o (flat Val.list vs)) (hs : s < n) (hd : d < n) {x y : Val} (hx : vs[s]? = some x) (hy : vs[d]? = some y) (c : Cfg) :
    RqC w.heap.size w.heap.size b (o + s * 7) (o + d * 7) w c x y (w.alloc (.cells c.list.toArray 26)) := by
  have ex : vs[s]'(by omega) = x := by rw [List.getElem?_eq_getElem (by omega)] at hx; exact Option.some.inj hx
  have ey : vs[d]'(by omega) = y := by rw [List.getElem?_eq_getElem (by omega)] at hy; exact Option.some.inj hy
  have rx := Row.elem Val.len hg s (by omega)
  rw [ex] at rx
  have ry := Row.elem Val.len hg d (by omega)
  rw [ey] at ry
  have hb := (Below.refl w.heap.size w).alloc (Nat.le_refl _) (.cells c.list.toArray 26)
  exact ⟨⟨CfgAt.new w c, hb, Nat.le_refl _⟩, range_call rx hbl hb, range_call ry hbl hb, by simp; omega⟩

set_option maxHeartbeats 2000000 in
theorem mreq_s0 (A : Option Addr) (n cap : Nat) (s d : Int) (c : Cfg) (w : World) (hn : n ≤ 100000) (h : s < 0) :
    Calls Try.prog 13 #[.slice A n cap, .int .i64 s, .int .i64 d, .agg c.list.toArray] w fun en w' => en = .returned (.int .i64 7) ∧ Below w.heap.size w w' := by
  have HB := Lib.hid ((Below.refl w.heap.size w).alloc (Nat.le_refl _) (.cells c.list.toArray 26))
  have i0 : ∀ w, (Instr.index 37 (.agg #[.int .i64 s, .int .i64 d]) (.int .i64 0)).run Try.prog w = .ok (.int .i64 s) w := fun _ => by kernel_rfl
  have i1 : ∀ w, (Instr.index 37 (.agg #[.int .i64 s, .int .i64 d]) (.int .i64 1)).run Try.prog w = .ok (.int .i64 d) w := fun _ => by kernel_rfl
  go_enter Try.func13, Try.ntmps13
  go_wp2_with fail
  refine wp_loop_rounds 3 ?_
  rw [rounds_succ]
  go_wp2_with fail
  go_ret
  exact ⟨rfl, HB.out⟩

set_option maxHeartbeats 2000000 in
theorem mreq_s1 (A : Option Addr) (n cap : Nat) (s d : Int) (c : Cfg) (w : World) (hn : n ≤ 100000) (h0 : 0 ≤ s) (h : (n : Int) ≤ s) :
    Calls Try.prog 13 #[.slice A n cap, .int .i64 s, .int .i64 d, .agg c.list.toArray] w fun en w' => en = .returned (.int .i64 7) ∧ Below w.heap.size w w' := by
  have HB := Lib.hid ((Below.refl w.heap.size w).alloc (Nat.le_refl _) (.cells c.list.toArray 26))
  have i0 : ∀ w, (Instr.index 37 (.agg #[.int .i64 s, .int .i64 d]) (.int .i64 0)).run Try.prog w = .ok (.int .i64 s) w := fun _ => by kernel_rfl
  have i1 : ∀ w, (Instr.index 37 (.agg #[.int .i64 s, .int .i64 d]) (.int .i64 1)).run Try.prog w = .ok (.int .i64 d) w := fun _ => by kernel_rfl
  go_enter Try.func13, Try.ntmps13
  go_wp2_with fail
  refine wp_loop_rounds 3 ?_
  rw [rounds_succ]
  go_wp2_with fail
  go_ret
  exact ⟨rfl, HB.out⟩

set_option maxHeartbeats 2000000 in
theorem mreq_d0 (A : Option Addr) (n cap : Nat) (s d : Int) (c : Cfg) (w : World) (hn : n ≤ 100000) (h0 : 0 ≤ s) (h1 : s < (n : Int)) (h : d < 0) :
    Calls Try.prog 13 #[.slice A n cap, .int .i64 s, .int .i64 d, .agg c.list.toArray] w fun en w' => en = .returned (.int .i64 7) ∧ Below w.heap.size w w' := by
  have HB := Lib.hid ((Below.refl w.heap.size w).alloc (Nat.le_refl _) (.cells c.list.toArray 26))
  have i0 : ∀ w, (Instr.index 37 (.agg #[.int .i64 s, .int .i64 d]) (.int .i64 0)).run Try.prog w = .ok (.int .i64 s) w := fun _ => by kernel_rfl
  have i1 : ∀ w, (Instr.index 37 (.agg #[.int .i64 s, .int .i64 d]) (.int .i64 1)).run Try.prog w = .ok (.int .i64 d) w := fun _ => by kernel_rfl
  go_enter Try.func13, Try.ntmps13
  go_wp2_with fail
  refine wp_loop_rounds 3 ?_
  rw [rounds_succ]
  go_wp2_with fail
  rw [rounds_succ]
  go_wp2_with fail
  go_ret
  exact ⟨rfl, HB.out⟩

set_option maxHeartbeats 2000000 in
theorem mreq_d1 (A : Option Addr) (n cap : Nat) (s d : Int) (c : Cfg) (w : World) (hn : n ≤ 100000) (h0 : 0 ≤ s) (h1 : s < (n : Int)) (g : 0 ≤ d) (h : (n : Int) ≤ d) :
    Calls Try.prog 13 #[.slice A n cap, .int .i64 s, .int .i64 d, .agg c.list.toArray] w fun en w' => en = .returned (.int .i64 7) ∧ Below w.heap.size w w' := by
  have HB := Lib.hid ((Below.refl w.heap.size w).alloc (Nat.le_refl _) (.cells c.list.toArray 26))
  have i0 : ∀ w, (Instr.index 37 (.agg #[.int .i64 s, .int .i64 d]) (.int .i64 0)).run Try.prog w = .ok (.int .i64 s) w := fun _ => by kernel_rfl
  have i1 : ∀ w, (Instr.index 37 (.agg #[.int .i64 s, .int .i64 d]) (.int .i64 1)).run Try.prog w = .ok (.int .i64 d) w := fun _ => by kernel_rfl
  go_enter Try.func13, Try.ntmps13
  go_wp2_with fail
  refine wp_loop_rounds 3 ?_
  rw [rounds_succ]
  go_wp2_with fail
  rw [rounds_succ]
  go_wp2_with fail
  go_ret
  exact ⟨rfl, HB.out⟩

set_option maxHeartbeats 2000000 in
theorem mreq_same (A : Option Addr) (n cap : Nat) (s : Int) (c : Cfg) (w : World) (hn : n ≤ 100000) (h0 : 0 ≤ s) (h1 : s < (n : Int)) :
    Calls Try.prog 13 #[.slice A n cap, .int .i64 s, .int .i64 s, .agg c.list.toArray] w fun en w' => en = .returned (.int .i64 12) ∧ Below w.heap.size w w' := by
  have HB := Lib.hid ((Below.refl w.heap.size w).alloc (Nat.le_refl _) (.cells c.list.toArray 26))
  have i0 : ∀ w, (Instr.index 37 (.agg #[.int .i64 s, .int .i64 s]) (.int .i64 0)).run Try.prog w = .ok (.int .i64 s) w := fun _ => by kernel_rfl
  have i1 : ∀ w, (Instr.index 37 (.agg #[.int .i64 s, .int .i64 s]) (.int .i64 1)).run Try.prog w = .ok (.int .i64 s) w := fun _ => by kernel_rfl
  go_enter Try.func13, Try.ntmps13
  go_wp2_with fail
  refine wp_loop_rounds 3 ?_
  rw [rounds_succ]
  go_wp2_with fail
  rw [rounds_succ]
  go_wp2_with fail
  rw [rounds_succ]
  go_wp2_with fail
  go_ret
  exact ⟨rfl, HB.out⟩

set_option maxHeartbeats 4000000 in
theorem mreq_in (vs : List Val) (A : Option Addr) (n cap s d : Nat) (c : Cfg) (w : World) (hR : Vals w A n vs) (hn : n ≤ 100000) (hs : s < n) (hd : d < n) (hne : s ≠ d) (x y : Val) (hx : vs[s]? = some x) (hy : vs[d]? = some y) (hx0 : x.Ok) (hy0 : y.Ok) (hm : c.maxBal ≤ 1152921504606846976) :
    Calls Try.prog 13 #[.slice A n cap, .int .i64 s, .int .i64 d, .agg c.list.toArray] w fun en w' => en = .returned (.int .i64 (Val.chk x y c)) ∧ Below w.heap.size w w' := by
  have HC := Lib.hid (fun w => mcheck_any x y c w hx0 hy0 hm)
  obtain ⟨b, o, rfl, hbl, hg⟩ := vals_some hR (by omega)
  have hc0 := rq_new hR.1 hbl hg hs hd hx hy c
  have HG := Lib.hid hc0
  have hs1 : (s : Int) < (n : Int) := by omega
  have hs0 : (0 : Int) ≤ (s : Int) := by omega
  have hd1 : (d : Int) < (n : Int) := by omega
  have hd0 : (0 : Int) ≤ (d : Int) := by omega
  have hne1 : ((s : Int) == (d : Int)) = false := by rw [beq_eq_false_iff_ne]; omega
  have hne2 : (s == d) = false := by rw [beq_eq_false_iff_ne]; exact hne
  clear hR hx hy hx0 hy0 hm hg hc0
  have i0 : ∀ w, (Instr.index 37 (.agg #[.int .i64 (s : Int), .int .i64 (d : Int)]) (.int .i64 0)).run Try.prog w = .ok (.int .i64 (s : Int)) w := fun _ => by kernel_rfl
  have i1 : ∀ w, (Instr.index 37 (.agg #[.int .i64 (s : Int), .int .i64 (d : Int)]) (.int .i64 1)).run Try.prog w = .ok (.int .i64 (d : Int)) w := fun _ => by kernel_rfl
  go_enter Try.func13, Try.ntmps13
  go_wp2_with fail
  refine wp_loop_rounds 3 ?_
  rw [rounds_succ]
  go_wp2_with fail
  rw [rounds_succ]
  go_wp2_with fail
  rw [rounds_succ]
  go_wp2_with fail
  generalize hwn : World.alloc w _ = w1 at HG ⊢
  refine calm_region (RqC w.heap.size w.heap.size b (o + s * 7) (o + d * 7) w c x y) (by kernel_rfl) (by kernel_rfl) (RqC.call HG.out (below_drewN (Below.refl _ _) 1)) ?_
  refine calm_val (v := ?v0) (by rfl) ?y0 ?z0
  case y0 => intro w hw; go_simp; (try with_reducible rfl)
  try simp only [Act.put, List.getElem_toArray, List.getElem_cons_succ, List.getElem_cons_zero, List.setIfInBounds_toArray, List.set_cons_zero, List.set_cons_succ]
  refine calm_val (v := ?v1) (by rfl) ?y1 ?z1
  case y1 => intro w hw; go_simp; (try with_reducible rfl)
  try simp only [Act.put, List.getElem_toArray, List.getElem_cons_succ, List.getElem_cons_zero, List.setIfInBounds_toArray, List.set_cons_zero, List.set_cons_succ]
  refine calm_val (v := ?v2) (by rfl) ?y2 ?z2
  case y2 => intro w hw; go_simp; (try with_reducible rfl)
  try simp only [Act.put, List.getElem_toArray, List.getElem_cons_succ, List.getElem_cons_zero, List.setIfInBounds_toArray, List.set_cons_zero, List.set_cons_succ]
  refine calm_part 24 (.tmp 31) (by rfl) rfl rfl (fun w hw => hw.2.1) _ Try.underlying24 rfl x.infoL ?_
  try simp only [Act.put, List.getElem_toArray, List.getElem_cons_succ, List.getElem_cons_zero, List.setIfInBounds_toArray, List.set_cons_zero, List.set_cons_succ]
  refine calm_val (v := ?v4) (by rfl) ?y4 ?z4
  case y4 => intro w hw; go_simp; (try with_reducible rfl)
  try simp only [Act.put, List.getElem_toArray, List.getElem_cons_succ, List.getElem_cons_zero, List.setIfInBounds_toArray, List.set_cons_zero, List.set_cons_succ]
  refine calm_val (v := ?v5) (by rfl) ?y5 ?z5
  case y5 => intro w hw; go_simp; (try with_reducible rfl)
  try simp only [Act.put, List.getElem_toArray, List.getElem_cons_succ, List.getElem_cons_zero, List.setIfInBounds_toArray, List.set_cons_zero, List.set_cons_succ]
  refine calm_val (v := ?v6) (by rfl) ?y6 ?z6
  case y6 => intro w hw; go_simp; (try with_reducible rfl)
  try simp only [Act.put, List.getElem_toArray, List.getElem_cons_succ, List.getElem_cons_zero, List.setIfInBounds_toArray, List.set_cons_zero, List.set_cons_succ]
  refine calm_part 24 (.tmp 35) (by rfl) rfl rfl (fun w hw => hw.2.2.1) _ Try.underlying24 rfl y.infoL ?_
  try simp only [Act.put, List.getElem_toArray, List.getElem_cons_succ, List.getElem_cons_zero, List.setIfInBounds_toArray, List.set_cons_zero, List.set_cons_succ]
  refine calm_load 26 (.tmp 7) (by rfl) rfl rfl (fun w hw => hw.1.1) _ Try.underlying26 rfl (by show _ = some 20; kernel_rfl) ?_
  try simp only [Act.put, List.getElem_toArray, List.getElem_cons_succ, List.getElem_cons_zero, List.setIfInBounds_toArray, List.set_cons_zero, List.set_cons_succ]
  refine calm_fn RqC.call HC.out (by rfl) ?f9 ?_
  case f9 => intro w; go_simp
  try simp only [Act.put, List.getElem_toArray, List.getElem_cons_succ, List.getElem_cons_zero, List.setIfInBounds_toArray, List.set_cons_zero, List.set_cons_succ]
  refine calm_val (v := ?v10) (by rfl) ?y10 ?z10
  case y10 => intro w hw; go_simp; (try with_reducible rfl)
  try simp only [Act.put, List.getElem_toArray, List.getElem_cons_succ, List.getElem_cons_zero, List.setIfInBounds_toArray, List.set_cons_zero, List.set_cons_succ]
  refine wpQuiet_nil ?_
  intro w8 hw8
  have HW8 := Lib.hid hw8
  clear hw8
  go_wp2_with fail
  go_ret
  exact ⟨rfl, HW8.out.1.2.1⟩

set_option maxHeartbeats 2000000 in
theorem rreq_s0 (A : Option Addr) (n cap : Nat) (s d : Int) (c : Cfg) (w : World) (hn : n ≤ 100000) (h : s < 0) :
    Calls Try.prog 14 #[.slice A n cap, .int .i64 s, .int .i64 d, .agg c.list.toArray] w fun en w' => en = .returned (.int .i64 7) ∧ Below w.heap.size w w' := by
  have HB := Lib.hid ((Below.refl w.heap.size w).alloc (Nat.le_refl _) (.cells c.list.toArray 26))
  go_enter Try.func14, Try.ntmps14
  go_wp2_with fail
  go_ret
  exact ⟨rfl, HB.out⟩

set_option maxHeartbeats 2000000 in
theorem rreq_s1 (A : Option Addr) (n cap : Nat) (s d : Int) (c : Cfg) (w : World) (hn : n ≤ 100000) (h0 : 0 ≤ s) (g : 0 ≤ d) (h : (n : Int) ≤ s) :
    Calls Try.prog 14 #[.slice A n cap, .int .i64 s, .int .i64 d, .agg c.list.toArray] w fun en w' => en = .returned (.int .i64 7) ∧ Below w.heap.size w w' := by
  have HB := Lib.hid ((Below.refl w.heap.size w).alloc (Nat.le_refl _) (.cells c.list.toArray 26))
  go_enter Try.func14, Try.ntmps14
  go_wp2_with fail
  go_ret
  exact ⟨rfl, HB.out⟩

set_option maxHeartbeats 2000000 in
theorem rreq_d0 (A : Option Addr) (n cap : Nat) (s d : Int) (c : Cfg) (w : World) (hn : n ≤ 100000) (h0 : 0 ≤ s) (h : d < 0) :
    Calls Try.prog 14 #[.slice A n cap, .int .i64 s, .int .i64 d, .agg c.list.toArray] w fun en w' => en = .returned (.int .i64 7) ∧ Below w.heap.size w w' := by
  have HB := Lib.hid ((Below.refl w.heap.size w).alloc (Nat.le_refl _) (.cells c.list.toArray 26))
  go_enter Try.func14, Try.ntmps14
  go_wp2_with fail
  go_ret
  exact ⟨rfl, HB.out⟩

set_option maxHeartbeats 2000000 in
theorem rreq_d1 (A : Option Addr) (n cap : Nat) (s d : Int) (c : Cfg) (w : World) (hn : n ≤ 100000) (h0 : 0 ≤ s) (h1 : s < (n : Int)) (g : 0 ≤ d) (h : (n : Int) ≤ d) :
    Calls Try.prog 14 #[.slice A n cap, .int .i64 s, .int .i64 d, .agg c.list.toArray] w fun en w' => en = .returned (.int .i64 7) ∧ Below w.heap.size w w' := by
  have HB := Lib.hid ((Below.refl w.heap.size w).alloc (Nat.le_refl _) (.cells c.list.toArray 26))
  go_enter Try.func14, Try.ntmps14
  go_wp2_with fail
  go_ret
  exact ⟨rfl, HB.out⟩

set_option maxHeartbeats 2000000 in
theorem rreq_same (A : Option Addr) (n cap : Nat) (s : Int) (c : Cfg) (w : World) (hn : n ≤ 100000) (h0 : 0 ≤ s) (h1 : s < (n : Int)) :
    Calls Try.prog 14 #[.slice A n cap, .int .i64 s, .int .i64 s, .agg c.list.toArray] w fun en w' => en = .returned (.int .i64 12) ∧ Below w.heap.size w w' := by
  have HB := Lib.hid ((Below.refl w.heap.size w).alloc (Nat.le_refl _) (.cells c.list.toArray 26))
  go_enter Try.func14, Try.ntmps14
  go_wp2_with fail
  go_ret
  exact ⟨rfl, HB.out⟩

set_option maxHeartbeats 4000000 in
theorem rreq_in (vs : List Val) (A : Option Addr) (n cap s d : Nat) (c : Cfg) (w : World) (hR : Vals w A n vs) (hn : n ≤ 100000) (hs : s < n) (hd : d < n) (hne : s ≠ d) (x y : Val) (hx : vs[s]? = some x) (hy : vs[d]? = some y) (hx0 : x.Ok) (hy0 : y.Ok) (hm : c.maxBal ≤ 1152921504606846976) :
    Calls Try.prog 14 #[.slice A n cap, .int .i64 s, .int .i64 d, .agg c.list.toArray] w fun en w' => en = .returned (.int .i64 (Val.chk x y c)) ∧ Below w.heap.size w w' := by
  have HC := Lib.hid (fun w => rcheck_any x y c w hx0 hy0 hm)
  obtain ⟨b, o, rfl, hbl, hg⟩ := vals_some hR (by omega)
  have hc0 := rq_new hR.1 hbl hg hs hd hx hy c
  have HG := Lib.hid hc0
  have hs1 : (s : Int) < (n : Int) := by omega
  have hs0 : (0 : Int) ≤ (s : Int) := by omega
  have hd1 : (d : Int) < (n : Int) := by omega
  have hd0 : (0 : Int) ≤ (d : Int) := by omega
  have hne1 : ((s : Int) == (d : Int)) = false := by rw [beq_eq_false_iff_ne]; omega
  have hne2 : (s == d) = false := by rw [beq_eq_false_iff_ne]; exact hne
  clear hR hx hy hx0 hy0 hm hg hc0
  go_enter Try.func14, Try.ntmps14
  go_wp2_with fail
  generalize hwn : World.alloc w _ = w1 at HG ⊢
  refine calm_region (RqC w.heap.size w.heap.size b (o + s * 7) (o + d * 7) w c x y) (by kernel_rfl) (by kernel_rfl) (RqC.call HG.out (below_drewN (Below.refl _ _) 1)) ?_
  refine calm_val (v := ?v0) (by rfl) ?y0 ?z0
  case y0 => intro w hw; go_simp; (try with_reducible rfl)
  try simp only [Act.put, List.getElem_toArray, List.getElem_cons_succ, List.getElem_cons_zero, List.setIfInBounds_toArray, List.set_cons_zero, List.set_cons_succ]
  refine calm_val (v := ?v1) (by rfl) ?y1 ?z1
  case y1 => intro w hw; go_simp; (try with_reducible rfl)
  try simp only [Act.put, List.getElem_toArray, List.getElem_cons_succ, List.getElem_cons_zero, List.setIfInBounds_toArray, List.set_cons_zero, List.set_cons_succ]
  refine calm_val (v := ?v2) (by rfl) ?y2 ?z2
  case y2 => intro w hw; go_simp; (try with_reducible rfl)
  try simp only [Act.put, List.getElem_toArray, List.getElem_cons_succ, List.getElem_cons_zero, List.setIfInBounds_toArray, List.set_cons_zero, List.set_cons_succ]
  refine calm_part 24 (.tmp 32) (by rfl) rfl rfl (fun w hw => hw.2.1) _ Try.underlying24 rfl x.infoL ?_
  try simp only [Act.put, List.getElem_toArray, List.getElem_cons_succ, List.getElem_cons_zero, List.setIfInBounds_toArray, List.set_cons_zero, List.set_cons_succ]
  refine calm_val (v := ?v4) (by rfl) ?y4 ?z4
  case y4 => intro w hw; go_simp; (try with_reducible rfl)
  try simp only [Act.put, List.getElem_toArray, List.getElem_cons_succ, List.getElem_cons_zero, List.setIfInBounds_toArray, List.set_cons_zero, List.set_cons_succ]
  refine calm_val (v := ?v5) (by rfl) ?y5 ?z5
  case y5 => intro w hw; go_simp; (try with_reducible rfl)
  try simp only [Act.put, List.getElem_toArray, List.getElem_cons_succ, List.getElem_cons_zero, List.setIfInBounds_toArray, List.set_cons_zero, List.set_cons_succ]
  refine calm_val (v := ?v6) (by rfl) ?y6 ?z6
  case y6 => intro w hw; go_simp; (try with_reducible rfl)
  try simp only [Act.put, List.getElem_toArray, List.getElem_cons_succ, List.getElem_cons_zero, List.setIfInBounds_toArray, List.set_cons_zero, List.set_cons_succ]
  refine calm_part 24 (.tmp 36) (by rfl) rfl rfl (fun w hw => hw.2.2.1) _ Try.underlying24 rfl y.infoL ?_
  try simp only [Act.put, List.getElem_toArray, List.getElem_cons_succ, List.getElem_cons_zero, List.setIfInBounds_toArray, List.set_cons_zero, List.set_cons_succ]
  refine calm_load 26 (.tmp 7) (by rfl) rfl rfl (fun w hw => hw.1.1) _ Try.underlying26 rfl (by show _ = some 20; kernel_rfl) ?_
  try simp only [Act.put, List.getElem_toArray, List.getElem_cons_succ, List.getElem_cons_zero, List.setIfInBounds_toArray, List.set_cons_zero, List.set_cons_succ]
  refine calm_fn RqC.call HC.out (by rfl) ?f9 ?_
  case f9 => intro w; go_simp
  try simp only [Act.put, List.getElem_toArray, List.getElem_cons_succ, List.getElem_cons_zero, List.setIfInBounds_toArray, List.set_cons_zero, List.set_cons_succ]
  refine calm_val (v := ?v10) (by rfl) ?y10 ?z10
  case y10 => intro w hw; go_simp; (try with_reducible rfl)
  try simp only [Act.put, List.getElem_toArray, List.getElem_cons_succ, List.getElem_cons_zero, List.setIfInBounds_toArray, List.set_cons_zero, List.set_cons_succ]
  refine wpQuiet_nil ?_
  intro w8 hw8
  have HW8 := Lib.hid hw8
  clear hw8
  go_wp2_with fail
  go_ret
  exact ⟨rfl, HW8.out.1.2.1⟩

/-- The code of a request. -/
def reqCode (vs : List Val) (s d : Int) (c : Cfg) : Int :=
  if s < 0 ∨ d < 0 ∨ (vs.length : Int) ≤ s ∨ (vs.length : Int) ≤ d then 7 else if s = d then 12 else match vs[s.toNat]?, vs[d.toNat]? with
  | some x, some y => Val.chk x y c
  | _, _ => 0

theorem reqCode_in {vs : List Val} {s d : Nat} (c : Cfg) (hs : s < vs.length) (hd : d < vs.length) (hne : s ≠ d) : reqCode vs s d c = Val.chk vs[s] vs[d] c := by
  unfold reqCode
  rw [if_neg (by omega), if_neg (by omega)]
  simp [hs, hd]

theorem mreq_any (vs : List Val) (A : Option Addr) (n cap : Nat) (s d : Int) (c : Cfg) (w : World) (hR : Vals w A n vs) (hn : n ≤ 100000) (hok : ∀ v ∈ vs, v.Ok) (hm : c.maxBal ≤ 1152921504606846976) :
    Calls Try.prog 13 #[.slice A n cap, .int .i64 s, .int .i64 d, .agg c.list.toArray] w fun en w' => en = .returned (.int .i64 (reqCode vs s d c)) ∧ Below w.heap.size w w' := by
  have hlen := hR.1
  by_cases hbad : s < 0 ∨ d < 0 ∨ (vs.length : Int) ≤ s ∨ (vs.length : Int) ≤ d
  · have e : reqCode vs s d c = 7 := by unfold reqCode; rw [if_pos hbad]
    rw [e]
    by_cases h0 : s < 0
    · exact mreq_s0 A n cap s d c w hn h0
    by_cases h1 : (n : Int) ≤ s
    · exact mreq_s1 A n cap s d c w hn (by omega) h1
    by_cases h2 : d < 0
    · exact mreq_d0 A n cap s d c w hn (by omega) (by omega) h2
    · exact mreq_d1 A n cap s d c w hn (by omega) (by omega) (by omega) (by omega)
  · by_cases heq : s = d
    · have e : reqCode vs s d c = 12 := by unfold reqCode; rw [if_neg hbad, if_pos heq]
      rw [e]
      subst heq
      exact mreq_same A n cap s c w hn (by omega) (by omega)
    · obtain ⟨s', rfl⟩ := Int.eq_ofNat_of_zero_le (show 0 ≤ s by omega)
      obtain ⟨d', rfl⟩ := Int.eq_ofNat_of_zero_le (show 0 ≤ d by omega)
      have e := reqCode_in (vs := vs) (s := s') (d := d') c (by omega) (by omega) (by omega)
      rw [e]
      exact mreq_in vs A n cap s' d' c w hR hn (by omega) (by omega) (by omega) _ _ (List.getElem?_eq_getElem (by omega)) (List.getElem?_eq_getElem (by omega)) (hok _ (List.getElem_mem _)) (hok _ (List.getElem_mem _)) hm

theorem rreq_any (vs : List Val) (A : Option Addr) (n cap : Nat) (s d : Int) (c : Cfg) (w : World) (hR : Vals w A n vs) (hn : n ≤ 100000) (hok : ∀ v ∈ vs, v.Ok) (hm : c.maxBal ≤ 1152921504606846976) :
    Calls Try.prog 14 #[.slice A n cap, .int .i64 s, .int .i64 d, .agg c.list.toArray] w fun en w' => en = .returned (.int .i64 (reqCode vs s d c)) ∧ Below w.heap.size w w' := by
  have hlen := hR.1
  by_cases hbad : s < 0 ∨ d < 0 ∨ (vs.length : Int) ≤ s ∨ (vs.length : Int) ≤ d
  · have e : reqCode vs s d c = 7 := by unfold reqCode; rw [if_pos hbad]
    rw [e]
    by_cases h0 : s < 0
    · exact rreq_s0 A n cap s d c w hn h0
    by_cases h2 : d < 0
    · exact rreq_d0 A n cap s d c w hn (by omega) h2
    by_cases h1 : (n : Int) ≤ s
    · exact rreq_s1 A n cap s d c w hn (by omega) (by omega) h1
    · exact rreq_d1 A n cap s d c w hn (by omega) (by omega) (by omega) (by omega)
  · by_cases heq : s = d
    · have e : reqCode vs s d c = 12 := by unfold reqCode; rw [if_neg hbad, if_pos heq]
      rw [e]
      subst heq
      exact rreq_same A n cap s c w hn (by omega) (by omega)
    · obtain ⟨s', rfl⟩ := Int.eq_ofNat_of_zero_le (show 0 ≤ s by omega)
      obtain ⟨d', rfl⟩ := Int.eq_ofNat_of_zero_le (show 0 ≤ d by omega)
      have e := reqCode_in (vs := vs) (s := s') (d := d') c (by omega) (by omega) (by omega)
      rw [e]
      exact rreq_in vs A n cap s' d' c w hR hn (by omega) (by omega) (by omega) _ _ (List.getElem?_eq_getElem (by omega)) (List.getElem?_eq_getElem (by omega)) (hok _ (List.getElem_mem _)) (hok _ (List.getElem_mem _)) hm

end Go.Proofs.Ytgmbgomlicamdaa
