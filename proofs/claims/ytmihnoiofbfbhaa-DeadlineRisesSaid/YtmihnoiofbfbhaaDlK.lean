/- Chapter 18: the laws' walks: DeadlineMatches, DeadlineSteps. -/
import Derived.Test.YtmihnoiofbfbhaaDlJ
namespace Go.Proofs.Ytmihnoiofbfbhaa
open Go.RowKit
set_option linter.unusedSimpArgs false
set_option maxRecDepth 20000

/-- An exit's case and a configuration, boxed one behind the other at p; all that is older than b reads as at first. -/
structure Two (b : Nat) (w0 w : World) (p : Nat) (e a wt : Int) (c : Cfg) : Prop where
  x0 : w.cell? ⟨p, 0, none⟩ = some (.int .i64 e)
  x1 : w.cell? ⟨p, 1, none⟩ = some (.int .u64 a)
  x2 : w.cell? ⟨p, 2, none⟩ = some (.int .u64 wt)
  x10 : w.cell? ⟨p + 1, 10, none⟩ = some (.int .i64 c.unb)
  more : CfgAt w (p + 1) c ∧ Below b w0 w ∧ b ≤ p
theorem Two.cfg {b : Nat} {w0 w : World} {p : Nat} {e a wt : Int} {c : Cfg} (h : Two b w0 w p e a wt c) : CfgAt w (p + 1) c := h.more.1
theorem Two.bel {b : Nat} {w0 w : World} {p : Nat} {e a wt : Int} {c : Cfg} (h : Two b w0 w p e a wt c) : Below b w0 w := h.more.2.1
theorem Two.lt {b : Nat} {w0 w : World} {p : Nat} {e a wt : Int} {c : Cfg} (h : Two b w0 w p e a wt c) : p + 1 < w.heap.size := h.cfg.lt
theorem Two.new (w : World) (t : TypeId) (e a wt : Int) (c : Cfg) : Two w.heap.size w ((w.alloc (.cells #[.int .i64 e, .int .u64 a, .int .u64 wt] t)).alloc (.cells c.list.toArray 26)) w.heap.size e a wt c := by
  have hc : CfgAt ((w.alloc (.cells #[.int .i64 e, .int .u64 a, .int .u64 wt] t)).alloc (.cells c.list.toArray 26)) (w.heap.size + 1) c := by
    have := CfgAt.new (w.alloc (.cells #[.int .i64 e, .int .u64 a, .int .u64 wt] t)) c
    simpa using this
  have hB1 := (Below.refl w.heap.size w).alloc (Nat.le_refl _) (.cells #[.int .i64 e, .int .u64 a, .int .u64 wt] t)
  have hB := hB1.alloc hB1.size (.cells c.list.toArray 26)
  have hb2 : Below (w.heap.size + 1) (w.alloc (.cells #[.int .i64 e, .int .u64 a, .int .u64 wt] t)) ((w.alloc (.cells #[.int .i64 e, .int .u64 a, .int .u64 wt] t)).alloc (.cells c.list.toArray 26)) := (Below.refl _ _).alloc (by simp) _
  have hn : (w.alloc (.cells #[.int .i64 e, .int .u64 a, .int .u64 wt] t)).heap[w.heap.size]? = some (.cells #[.int .i64 e, .int .u64 a, .int .u64 wt] t (0, 0)) := heap_alloc_new w _
  have hn2 : ((w.alloc (.cells #[.int .i64 e, .int .u64 a, .int .u64 wt] t)).alloc (.cells c.list.toArray 26)).heap[w.heap.size]? = some (.cells #[.int .i64 e, .int .u64 a, .int .u64 wt] t (0, 0)) := (hb2.block w.heap.size (by omega)).trans hn
  exact ⟨by simp [World.cell?, hn2], by simp [World.cell?, hn2], by simp [World.cell?, hn2], hc.c10, hc, hB, Nat.le_refl _⟩
theorem Two.next {b : Nat} {w0 w w' : World} {p : Nat} {e a wt : Int} {c : Cfg} (h : Two b w0 w p e a wt c) (hb : Below w.heap.size w w') : Two b w0 w' p e a wt c :=
  have hl := h.lt
  ⟨(hb.cell (p := ⟨p, 0, none⟩) (by show p < _; omega)).trans h.x0, (hb.cell (p := ⟨p, 1, none⟩) (by show p < _; omega)).trans h.x1, (hb.cell (p := ⟨p, 2, none⟩) (by show p < _; omega)).trans h.x2, (h.cfg.below hb).c10, h.cfg.below hb, h.bel.trans (hb.mono (by have := h.more.2.2; omega)), h.more.2.2⟩

/-- What a call of a law says: true, and the older memory as before. -/
def Tr (w : World) (e : Ending) (w' : World) : Prop := e = .returned (.bool true) ∧ Below w.heap.size w w'

set_option maxHeartbeats 4000000 in
theorem deadlineMatches_bad (e a wt : Int) (c : Cfg) (w : World) (nok : ¬ c.Ok) : Calls Try.prog 3 #[.agg #[.int .i64 e, .int .u64 a, .int .u64 wt], .agg c.list.toArray] w (Tr w) := by
  have HF := Lib.hid (Two.new w 24 e a wt c)
  have HCk := Lib.hid (fun w => check_any c w)
  have HAl := Lib.hid alive_any
  have HNk := Lib.hid nok
  clear nok
  go_enter Try.func3, Try.ntmps3
  obtain ⟨x0, x1, x2, x10, xc⟩ := HF.out
  clear xc
  go_wp2_with (first | (with_reducible show wpList _ _ _ (_ :: _) _ _; refine wpList_load_cfg (.tmp 3) rfl rfl rfl HF.out.cfg ?_) | fail)
  refine (HCk.out _).mono ?_
  rintro en w0 ⟨⟨r, rfl, hr⟩, hb⟩
  have HF' := Lib.hid (HF.out.next hb)
  clear HF hb x0 x1 x2 x10
  have HF := HF'
  clear HF'
  have hr0 : ¬ r = 0 := fun h => HNk.out (hr.1 h)
  clear hr
  go_wp2_with fail
  refine (HAl.out _).mono ?_
  rintro en w1 ⟨rfl, hb⟩
  have HB := Lib.hid (HF.out.bel.trans (hb.mono HF.out.bel.size))
  clear hb HF
  go_wp2
  go_ret
  exact ⟨rfl, HB.out⟩

set_option maxHeartbeats 8000000 in
theorem deadlineMatches_good {e a wt : Int} {c : Cfg} (w : World) (g : Good a wt c) : Calls Try.prog 3 #[.agg #[.int .i64 e, .int .u64 a, .int .u64 wt], .agg c.list.toArray] w (Tr w) := by
  have HF := Lib.hid (Two.new w 24 e a wt c)
  have HCk := Lib.hid (fun w => check_any c w)
  have HAl := Lib.hid alive_any
  have HOk := Lib.hid g.ok
  have h8 := g.ok.h8
  have h10 := g.ok.h10
  have HBn := Lib.hid (fun w => boundaries_any a wt c w g.a0 g.a1 g.w0 g.w1 g.f0 (by omega) (by omega) (by omega))
  have HBr := Lib.hid (fun w => bnd_ref g w)
  have HEx := Lib.hid (fun w => exit_any (e := e) g w)
  have HR0 := Lib.hid (fun w => refbound_any (e := e) (m := 0) g w)
  have HWi := Lib.hid (fun w => withdraw_any (e := e) g w)
  have HRu := Lib.hid (fun w => refbound_any (e := e) (m := c.unb) g w)
  have HPa := Lib.hid (fun w => pay_any (e := e) g w)
  have HRp := Lib.hid (fun w => refpay_any (e := e) g w)
  have HSw := Lib.hid (fun w => sweep_good g.ok w)
  have HSr := Lib.hid (fun w => refsweep_good g.ok w)
  rw [Pl.bound_zero] at HR0
  generalize Pl.bound e (Pl.bnd a wt c.forced c.minChurn) [] = b1 at *
  generalize Pl.bound e (Pl.bnd a wt c.forced c.minChurn) [c.unb] = b2 at *
  generalize Pl.bound e (Pl.bnd a wt c.forced c.minChurn) [c.unb, Pl.swp c.capacity c.visits c.pays c.parts c.epl] = b3 at *
  generalize Pl.bnd a wt c.forced c.minChurn = b0 at *
  generalize Pl.swp c.capacity c.visits c.pays c.parts c.epl = sw at *
  clear h8 h10
  clear g
  go_enter Try.func3, Try.ntmps3
  obtain ⟨x0, x1, x2, x10, xc⟩ := HF.out
  clear xc
  go_wp2_with (first | (with_reducible show wpList _ _ _ (_ :: _) _ _; refine wpList_load_cfg (.tmp 3) rfl rfl rfl HF.out.cfg ?_) | fail)
  refine (HCk.out _).mono ?_
  rintro en w0 ⟨⟨r, rfl, hr⟩, hb⟩
  have HF' := Lib.hid (HF.out.next hb)
  clear HF hb x0 x1 x2 x10
  have HF := HF'
  clear HF'
  obtain rfl : r = 0 := hr.2 HOk.out
  clear hr HOk HCk
  obtain ⟨x0, x1, x2, x10, xc⟩ := HF.out
  clear xc
  go_wp2_with (first | (with_reducible show wpList _ _ _ (_ :: _) _ _; refine wpList_load_cfg (.tmp 3) rfl rfl rfl HF.out.cfg ?_) | fail)
  refine (HBn.out _).mono ?_
  rintro en w1 ⟨rfl, hb⟩
  have HF' := Lib.hid (HF.out.next hb)
  clear HF hb x0 x1 x2 x10
  have HF := HF'
  clear HF'
  obtain ⟨x0, x1, x2, x10, xc⟩ := HF.out
  clear xc
  go_wp2_with (first | (with_reducible show wpList _ _ _ (_ :: _) _ _; refine wpList_load_cfg (.tmp 3) rfl rfl rfl HF.out.cfg ?_) | fail)
  refine (HBr.out _).mono ?_
  rintro en w2 ⟨rfl, hb⟩
  have HF' := Lib.hid (HF.out.next hb)
  clear HF hb x0 x1 x2 x10
  have HF := HF'
  clear HF'
  obtain ⟨x0, x1, x2, x10, xc⟩ := HF.out
  clear xc
  go_wp2_with (first | (with_reducible show wpList _ _ _ (_ :: _) _ _; refine wpList_load_cfg (.tmp 3) rfl rfl rfl HF.out.cfg ?_) | fail)
  refine (HEx.out _).mono ?_
  rintro en w3 ⟨rfl, hb⟩
  have HF' := Lib.hid (HF.out.next hb)
  clear HF hb x0 x1 x2 x10
  have HF := HF'
  clear HF'
  obtain ⟨x0, x1, x2, x10, xc⟩ := HF.out
  clear xc
  go_wp2_with (first | (with_reducible show wpList _ _ _ (_ :: _) _ _; refine wpList_load_cfg (.tmp 3) rfl rfl rfl HF.out.cfg ?_) | fail)
  refine (HR0.out _).mono ?_
  rintro en w4 ⟨rfl, hb⟩
  have HF' := Lib.hid (HF.out.next hb)
  clear HF hb x0 x1 x2 x10
  have HF := HF'
  clear HF'
  obtain ⟨x0, x1, x2, x10, xc⟩ := HF.out
  clear xc
  go_wp2_with (first | (with_reducible show wpList _ _ _ (_ :: _) _ _; refine wpList_load_cfg (.tmp 3) rfl rfl rfl HF.out.cfg ?_) | fail)
  refine (HWi.out _).mono ?_
  rintro en w5 ⟨rfl, hb⟩
  have HF' := Lib.hid (HF.out.next hb)
  clear HF hb x0 x1 x2 x10
  have HF := HF'
  clear HF'
  obtain ⟨x0, x1, x2, x10, xc⟩ := HF.out
  clear xc
  go_wp2_with (first | (with_reducible show wpList _ _ _ (_ :: _) _ _; refine wpList_load_cfg (.tmp 3) rfl rfl rfl HF.out.cfg ?_) | fail)
  refine (HRu.out _).mono ?_
  rintro en w6 ⟨rfl, hb⟩
  have HF' := Lib.hid (HF.out.next hb)
  clear HF hb x0 x1 x2 x10
  have HF := HF'
  clear HF'
  obtain ⟨x0, x1, x2, x10, xc⟩ := HF.out
  clear xc
  go_wp2_with (first | (with_reducible show wpList _ _ _ (_ :: _) _ _; refine wpList_load_cfg (.tmp 3) rfl rfl rfl HF.out.cfg ?_) | fail)
  refine (HPa.out _).mono ?_
  rintro en w7 ⟨rfl, hb⟩
  have HF' := Lib.hid (HF.out.next hb)
  clear HF hb x0 x1 x2 x10
  have HF := HF'
  clear HF'
  obtain ⟨x0, x1, x2, x10, xc⟩ := HF.out
  clear xc
  go_wp2_with (first | (with_reducible show wpList _ _ _ (_ :: _) _ _; refine wpList_load_cfg (.tmp 3) rfl rfl rfl HF.out.cfg ?_) | fail)
  refine (HRp.out _).mono ?_
  rintro en w8 ⟨rfl, hb⟩
  have HF' := Lib.hid (HF.out.next hb)
  clear HF hb x0 x1 x2 x10
  have HF := HF'
  clear HF'
  have hr : w8.drew.rangeAt (w.heap.size + 1) 0 c.list ∧ Hid (Below w.heap.size w w8.drew) := ⟨HF.out.cfg.range, HF.out.bel.drew⟩
  have hi : (Try.prog.info? 26).map (·.size) = some c.list.length := by kernel_rfl
  obtain ⟨fs, hd⟩ : ∃ fs, Try.prog.underlying 26 = some (.struct fs) := ⟨_, Try.underlying26⟩
  clear HF HBn HBr HEx HR0 HWi HRu HPa HRp
  generalize hclg : c.list = cl at *
  clear hclg
  go_wp2_with fail
  refine wp_region_held_drew (S := fun w' => w'.rangeAt (w.heap.size + 1) 0 cl ∧ Hid (Below w.heap.size w w')) (by kernel_rfl) hr (fun hS => ?_)
  refine wpAnyH_ready (rs := [0]) (by kernel_rfl) (by simp) (AllReadyH.cons rfl (fun K hK => ?_) AllReadyH.nil)
  go_simp
  refine (HAl.out _).mono ?_
  rintro en v1 ⟨rfl, hb⟩
  have hS' := mk_next hS (Nat.le_refl _) hb
  clear hS hb
  refine hK.out _ _ hS' (fun hS => ?_)
  clear hK hS' K
  try simp only [Act.put, List.getElem_toArray, List.getElem_cons_succ, List.getElem_cons_zero, List.setIfInBounds_toArray, List.set_cons_zero, List.set_cons_succ]
  refine wpAnyH_take (i := 1) (v := ?vr1) rfl (by kernel_rfl) (by kernel_rfl) (by kernel_rfl) (fun _ _ _ h => h) (Or.inl ⟨by rfl, ?yr1⟩) hS ?zr1
  case yr1 => intro w hSw; (try dsimp only at hSw); go_simp; (try with_reducible rfl)
  try simp only [Act.put, List.getElem_toArray, List.getElem_cons_succ, List.getElem_cons_zero, List.setIfInBounds_toArray, List.set_cons_zero, List.set_cons_succ]
  refine wpAnyH_take (i := 2) (v := ?vr2) rfl (by kernel_rfl) (by kernel_rfl) (by kernel_rfl) (fun _ _ _ h => h) (Or.inl ⟨by rfl, ?yr2⟩) hS ?zr2
  case yr2 => intro w hSw; (try dsimp only at hSw); go_simp; (try with_reducible rfl)
  try simp only [Act.put, List.getElem_toArray, List.getElem_cons_succ, List.getElem_cons_zero, List.setIfInBounds_toArray, List.set_cons_zero, List.set_cons_succ]
  refine wpAnyH_take (i := 3) (v := ?vr3) rfl (by kernel_rfl) (by kernel_rfl) (by kernel_rfl) (fun _ _ _ h => h) (Or.inl ⟨by rfl, ?yr3⟩) hS ?zr3
  case yr3 => intro w hSw; (try dsimp only at hSw); go_simp; (try with_reducible rfl)
  try simp only [Act.put, List.getElem_toArray, List.getElem_cons_succ, List.getElem_cons_zero, List.setIfInBounds_toArray, List.set_cons_zero, List.set_cons_succ]
  refine wpAnyH_take (i := 4) (v := ?vr4) rfl (by kernel_rfl) (by kernel_rfl) (by kernel_rfl) (fun _ _ _ h => h) (Or.inl ⟨by rfl, ?yr4⟩) hS ?zr4
  case yr4 => intro w hSw; (try dsimp only at hSw); go_simp; (try with_reducible rfl)
  try simp only [Act.put, List.getElem_toArray, List.getElem_cons_succ, List.getElem_cons_zero, List.setIfInBounds_toArray, List.set_cons_zero, List.set_cons_succ]
  refine wpAnyH_take (i := 5) (v := ?vr5) rfl (by kernel_rfl) (by kernel_rfl) (by kernel_rfl) (fun _ _ _ h => h) (Or.inl ⟨by rfl, ?yr5⟩) hS ?zr5
  case yr5 => intro w hSw; (try dsimp only at hSw); go_simp; (try with_reducible rfl)
  try simp only [Act.put, List.getElem_toArray, List.getElem_cons_succ, List.getElem_cons_zero, List.setIfInBounds_toArray, List.set_cons_zero, List.set_cons_succ]
  refine wpAnyH_take (i := 6) (v := ?vr6) rfl (by kernel_rfl) (by kernel_rfl) (by kernel_rfl) (fun _ _ _ h => h) (Or.inl ⟨by rfl, ?yr6⟩) hS ?zr6
  case yr6 => intro w hSw; (try dsimp only at hSw); go_simp; (try with_reducible rfl)
  try simp only [Act.put, List.getElem_toArray, List.getElem_cons_succ, List.getElem_cons_zero, List.setIfInBounds_toArray, List.set_cons_zero, List.set_cons_succ]
  refine wpAnyH_take (i := 7) (v := ?vr7) rfl (by kernel_rfl) (by kernel_rfl) (by kernel_rfl) (fun _ _ _ h => h) (Or.inl ⟨by rfl, ?yr7⟩) hS ?zr7
  case yr7 => intro w hSw; (try dsimp only at hSw); go_simp; (try with_reducible rfl)
  try simp only [Act.put, List.getElem_toArray, List.getElem_cons_succ, List.getElem_cons_zero, List.setIfInBounds_toArray, List.set_cons_zero, List.set_cons_succ]
  refine wpAnyH_take (i := 8) (v := ?vr8) rfl (by kernel_rfl) (by kernel_rfl) (by kernel_rfl) (fun _ _ _ h => h) (Or.inl ⟨by rfl, ?yr8⟩) hS ?zr8
  case yr8 => intro w hSw; (try dsimp only at hSw); go_simp; (try with_reducible rfl)
  try simp only [Act.put, List.getElem_toArray, List.getElem_cons_succ, List.getElem_cons_zero, List.setIfInBounds_toArray, List.set_cons_zero, List.set_cons_succ]
  refine wpAnyH_take (i := 9) (v := ?vr9) rfl (by kernel_rfl) (by kernel_rfl) (by kernel_rfl) (fun _ _ _ h => h) (Or.inl ⟨by rfl, ?yr9⟩) hS ?zr9
  case yr9 => intro w hSw; (try dsimp only at hSw); go_simp; (try with_reducible rfl)
  try simp only [Act.put, List.getElem_toArray, List.getElem_cons_succ, List.getElem_cons_zero, List.setIfInBounds_toArray, List.set_cons_zero, List.set_cons_succ]
  refine wpAnyH_take (i := 10) (v := ?vr10) rfl (by kernel_rfl) (by kernel_rfl) (by kernel_rfl) (fun _ _ _ h => h) (Or.inl ⟨by rfl, ?yr10⟩) hS ?zr10
  case yr10 => intro w hSw; (try dsimp only at hSw); go_simp; (try with_reducible rfl)
  try simp only [Act.put, List.getElem_toArray, List.getElem_cons_succ, List.getElem_cons_zero, List.setIfInBounds_toArray, List.set_cons_zero, List.set_cons_succ]
  refine wpAnyH_take (i := 11) (v := ?vr11) rfl (by kernel_rfl) (by kernel_rfl) (by kernel_rfl) (fun _ _ _ h => h) (Or.inl ⟨by rfl, ?yr11⟩) hS ?zr11
  case yr11 => intro w hSw; (try dsimp only at hSw); go_simp; (try with_reducible rfl)
  try simp only [Act.put, List.getElem_toArray, List.getElem_cons_succ, List.getElem_cons_zero, List.setIfInBounds_toArray, List.set_cons_zero, List.set_cons_succ]
  refine wpAnyH_take (i := 12) (v := ?vr12) rfl (by kernel_rfl) (by kernel_rfl) (by kernel_rfl) (fun _ _ _ h => h) (Or.inl ⟨by rfl, ?yr12⟩) hS ?zr12
  case yr12 => intro w hSw; (try dsimp only at hSw); go_simp; (try with_reducible rfl)
  try simp only [Act.put, List.getElem_toArray, List.getElem_cons_succ, List.getElem_cons_zero, List.setIfInBounds_toArray, List.set_cons_zero, List.set_cons_succ]
  refine wpAnyH_take (i := 13) (v := ?vr13) rfl (by kernel_rfl) (by kernel_rfl) (by kernel_rfl) (fun _ _ _ h => h) (Or.inl ⟨by rfl, ?yr13⟩) hS ?zr13
  case yr13 => intro w hSw; (try dsimp only at hSw); go_simp; (try with_reducible rfl)
  try simp only [Act.put, List.getElem_toArray, List.getElem_cons_succ, List.getElem_cons_zero, List.setIfInBounds_toArray, List.set_cons_zero, List.set_cons_succ]
  refine wpAnyH_take (i := 14) (v := ?vr14) rfl (by kernel_rfl) (by kernel_rfl) (by kernel_rfl) (fun _ _ _ h => h) (Or.inl ⟨by rfl, ?yr14⟩) hS ?zr14
  case yr14 => intro w hSw; (try dsimp only at hSw); go_simp; (try with_reducible rfl)
  try simp only [Act.put, List.getElem_toArray, List.getElem_cons_succ, List.getElem_cons_zero, List.setIfInBounds_toArray, List.set_cons_zero, List.set_cons_succ]
  refine wpAnyH_take (i := 15) (v := ?vr15) rfl (by kernel_rfl) (by kernel_rfl) (by kernel_rfl) (fun _ _ _ h => h) (Or.inl ⟨by rfl, ?yr15⟩) hS ?zr15
  case yr15 => intro w hSw; (try dsimp only at hSw); go_simp; (try with_reducible rfl)
  try simp only [Act.put, List.getElem_toArray, List.getElem_cons_succ, List.getElem_cons_zero, List.setIfInBounds_toArray, List.set_cons_zero, List.set_cons_succ]
  refine wpAnyH_take (i := 16) (v := ?vr16) rfl (by kernel_rfl) (by kernel_rfl) (by kernel_rfl) (fun _ _ _ h => h) (Or.inl ⟨by rfl, ?yr16⟩) hS ?zr16
  case yr16 => intro w hSw; (try dsimp only at hSw); go_simp; (try with_reducible rfl)
  try simp only [Act.put, List.getElem_toArray, List.getElem_cons_succ, List.getElem_cons_zero, List.setIfInBounds_toArray, List.set_cons_zero, List.set_cons_succ]
  refine wpAnyH_take (i := 17) (v := ?vr17) rfl (by kernel_rfl) (by kernel_rfl) (by kernel_rfl) (fun _ _ _ h => h) (Or.inl ⟨by rfl, ?yr17⟩) hS ?zr17
  case yr17 => intro w hSw; (try dsimp only at hSw); go_simp; (try with_reducible rfl)
  try simp only [Act.put, List.getElem_toArray, List.getElem_cons_succ, List.getElem_cons_zero, List.setIfInBounds_toArray, List.set_cons_zero, List.set_cons_succ]
  refine wpAnyH_take (i := 18) (v := ?vr18) rfl (by kernel_rfl) (by kernel_rfl) (by kernel_rfl) (fun _ _ _ h => h) (Or.inl ⟨by rfl, ?yr18⟩) hS ?zr18
  case yr18 => intro w hSw; (try dsimp only at hSw); go_simp; (try with_reducible rfl)
  try simp only [Act.put, List.getElem_toArray, List.getElem_cons_succ, List.getElem_cons_zero, List.setIfInBounds_toArray, List.set_cons_zero, List.set_cons_succ]
  refine wpAnyH_take (i := 19) (v := ?vr19) rfl (by kernel_rfl) (by kernel_rfl) (by kernel_rfl) (fun _ _ _ h => h) (Or.inl ⟨by rfl, ?yr19⟩) hS ?zr19
  case yr19 => intro w hSw; (try dsimp only at hSw); go_simp; (try with_reducible rfl)
  try simp only [Act.put, List.getElem_toArray, List.getElem_cons_succ, List.getElem_cons_zero, List.setIfInBounds_toArray, List.set_cons_zero, List.set_cons_succ]
  refine wpAnyH_take (i := 20) (v := ?vr20) rfl (by kernel_rfl) (by kernel_rfl) (by kernel_rfl) (fun _ _ _ h => h) (Or.inl ⟨by rfl, ?yr20⟩) hS ?zr20
  case yr20 => intro w hSw; (try dsimp only at hSw); go_simp; (try with_reducible rfl)
  try simp only [Act.put, List.getElem_toArray, List.getElem_cons_succ, List.getElem_cons_zero, List.setIfInBounds_toArray, List.set_cons_zero, List.set_cons_succ]
  refine wpAnyH_take (i := 21) (v := ?vr21) rfl (by kernel_rfl) (by kernel_rfl) (by kernel_rfl) (fun _ _ _ h => h) (Or.inl ⟨by rfl, ?yr21⟩) hS ?zr21
  case yr21 => intro w hSw; (try dsimp only at hSw); go_simp; (try with_reducible rfl)
  try simp only [Act.put, List.getElem_toArray, List.getElem_cons_succ, List.getElem_cons_zero, List.setIfInBounds_toArray, List.set_cons_zero, List.set_cons_succ]
  refine wpAnyH_take (i := 22) (v := ?vr22) rfl (by kernel_rfl) (by kernel_rfl) (by kernel_rfl) (fun _ _ _ h => h) (Or.inl ⟨by rfl, ?yr22⟩) hS ?zr22
  case yr22 => intro w hSw; (try dsimp only at hSw); go_simp; (try with_reducible rfl)
  try simp only [Act.put, List.getElem_toArray, List.getElem_cons_succ, List.getElem_cons_zero, List.setIfInBounds_toArray, List.set_cons_zero, List.set_cons_succ]
  refine wpAnyH_take (i := 23) (v := ?vr23) rfl (by kernel_rfl) (by kernel_rfl) (by kernel_rfl) (fun _ _ _ h => h) (Or.inl ⟨by rfl, ?yr23⟩) hS ?zr23
  case yr23 => intro w hSw; (try dsimp only at hSw); go_simp; (try with_reducible rfl)
  try simp only [Act.put, List.getElem_toArray, List.getElem_cons_succ, List.getElem_cons_zero, List.setIfInBounds_toArray, List.set_cons_zero, List.set_cons_succ]
  refine wpAnyH_take (i := 24) (v := ?vr24) rfl (by kernel_rfl) (by kernel_rfl) (by kernel_rfl) (fun _ _ _ h => h) (Or.inl ⟨by rfl, ?yr24⟩) hS ?zr24
  case yr24 => intro w hSw; (try dsimp only at hSw); go_simp; (try with_reducible rfl)
  try simp only [Act.put, List.getElem_toArray, List.getElem_cons_succ, List.getElem_cons_zero, List.setIfInBounds_toArray, List.set_cons_zero, List.set_cons_succ]
  refine wpAnyH_take (i := 25) (v := ?vr25) rfl (by kernel_rfl) (by kernel_rfl) (by kernel_rfl) (fun _ _ _ h => h) (Or.inl ⟨by rfl, ?yr25⟩) hS ?zr25
  case yr25 => intro w hSw; (try dsimp only at hSw); go_simp; (try with_reducible rfl)
  try simp only [Act.put, List.getElem_toArray, List.getElem_cons_succ, List.getElem_cons_zero, List.setIfInBounds_toArray, List.set_cons_zero, List.set_cons_succ]
  refine wpAnyH_take (i := 26) (v := ?vr26) rfl (by kernel_rfl) (by kernel_rfl) (by kernel_rfl) (fun _ _ _ h => h) (Or.inl ⟨by rfl, ?yr26⟩) hS ?zr26
  case yr26 => intro w hSw; (try dsimp only at hSw); go_simp; (try with_reducible rfl)
  try simp only [Act.put, List.getElem_toArray, List.getElem_cons_succ, List.getElem_cons_zero, List.setIfInBounds_toArray, List.set_cons_zero, List.set_cons_succ]
  refine wpAnyH_take (i := 27) (v := ?vr27) rfl (by kernel_rfl) (by kernel_rfl) (by kernel_rfl) (fun _ _ _ h => h) (Or.inl ⟨by rfl, ?yr27⟩) hS ?zr27
  case yr27 => intro w hSw; (try dsimp only at hSw); go_simp; (try with_reducible rfl)
  try simp only [Act.put, List.getElem_toArray, List.getElem_cons_succ, List.getElem_cons_zero, List.setIfInBounds_toArray, List.set_cons_zero, List.set_cons_succ]
  refine wpAnyH_take (i := 28) (v := ?vr28) rfl (by kernel_rfl) (by kernel_rfl) (by kernel_rfl) (fun _ _ _ h => h) (Or.inl ⟨by rfl, ?yr28⟩) hS ?zr28
  case yr28 => intro w hSw; (try dsimp only at hSw); go_simp; (try with_reducible rfl)
  try simp only [Act.put, List.getElem_toArray, List.getElem_cons_succ, List.getElem_cons_zero, List.setIfInBounds_toArray, List.set_cons_zero, List.set_cons_succ]
  refine wpAnyH_take (i := 29) (v := ?vr29) rfl (by kernel_rfl) (by kernel_rfl) (by kernel_rfl) (fun _ _ _ h => h) (Or.inl ⟨by rfl, ?yr29⟩) hS ?zr29
  case yr29 => intro w hSw; (try dsimp only at hSw); go_simp; (try with_reducible rfl)
  try simp only [Act.put, List.getElem_toArray, List.getElem_cons_succ, List.getElem_cons_zero, List.setIfInBounds_toArray, List.set_cons_zero, List.set_cons_succ]
  refine wpAnyH_take (i := 30) (v := ?vr30) rfl (by kernel_rfl) (by kernel_rfl) (by kernel_rfl) (fun _ _ _ h => h) (Or.inl ⟨by rfl, ?yr30⟩) hS ?zr30
  case yr30 => intro w hSw; (try dsimp only at hSw); go_simp; (try with_reducible rfl)
  try simp only [Act.put, List.getElem_toArray, List.getElem_cons_succ, List.getElem_cons_zero, List.setIfInBounds_toArray, List.set_cons_zero, List.set_cons_succ]
  refine wpAnyH_take (i := 31) (v := ?vr31) rfl (by kernel_rfl) (by kernel_rfl) (by kernel_rfl) (fun _ _ _ h => h) (Or.inl ⟨by rfl, ?yr31⟩) hS ?zr31
  case yr31 => intro w hSw; (try dsimp only at hSw); go_simp; (try with_reducible rfl)
  try simp only [Act.put, List.getElem_toArray, List.getElem_cons_succ, List.getElem_cons_zero, List.setIfInBounds_toArray, List.set_cons_zero, List.set_cons_succ]
  refine wpAnyH_take (i := 32) (v := ?vr32) rfl (by kernel_rfl) (by kernel_rfl) (by kernel_rfl) (fun _ _ _ h => h) (Or.inl ⟨by rfl, ?yr32⟩) hS ?zr32
  case yr32 => intro w hSw; (try dsimp only at hSw); go_simp; (try with_reducible rfl)
  try simp only [Act.put, List.getElem_toArray, List.getElem_cons_succ, List.getElem_cons_zero, List.setIfInBounds_toArray, List.set_cons_zero, List.set_cons_succ]
  refine wpAnyH_take (i := 33) (v := ?vr33) rfl (by kernel_rfl) (by kernel_rfl) (by kernel_rfl) (fun _ _ _ h => h) (Or.inl ⟨by rfl, ?yr33⟩) hS ?zr33
  case yr33 => intro w hSw; (try dsimp only at hSw); go_simp; (try with_reducible rfl)
  try simp only [Act.put, List.getElem_toArray, List.getElem_cons_succ, List.getElem_cons_zero, List.setIfInBounds_toArray, List.set_cons_zero, List.set_cons_succ]
  refine wpAnyH_take (i := 34) (v := ?vr34) rfl (by kernel_rfl) (by kernel_rfl) (by kernel_rfl) (fun _ _ _ h => h) (Or.inl ⟨by rfl, ?yr34⟩) hS ?zr34
  case yr34 => intro w hSw; (try dsimp only at hSw); go_simp; (try with_reducible rfl)
  try simp only [Act.put, List.getElem_toArray, List.getElem_cons_succ, List.getElem_cons_zero, List.setIfInBounds_toArray, List.set_cons_zero, List.set_cons_succ]
  refine wpAnyH_take (i := 35) (v := ?vr35) rfl (by kernel_rfl) (by kernel_rfl) (by kernel_rfl) (fun _ _ _ h => h) (Or.inl ⟨by rfl, ?yr35⟩) hS ?zr35
  case yr35 => intro w hSw; (try dsimp only at hSw); go_simp; (try with_reducible rfl)
  try simp only [Act.put, List.getElem_toArray, List.getElem_cons_succ, List.getElem_cons_zero, List.setIfInBounds_toArray, List.set_cons_zero, List.set_cons_succ]
  refine wpAnyH_take (i := 36) (v := ?vr36) rfl (by kernel_rfl) (by kernel_rfl) (by kernel_rfl) (fun _ _ _ h => h) (Or.inl ⟨by rfl, ?yr36⟩) hS ?zr36
  case yr36 => intro w hSw; (try dsimp only at hSw); go_simp; (try with_reducible rfl)
  try simp only [Act.put, List.getElem_toArray, List.getElem_cons_succ, List.getElem_cons_zero, List.setIfInBounds_toArray, List.set_cons_zero, List.set_cons_succ]
  refine wpAnyH_take (i := 37) (v := ?vr37) rfl (by kernel_rfl) (by kernel_rfl) (by kernel_rfl) (fun _ _ _ h => h) (Or.inl ⟨by rfl, ?yr37⟩) hS ?zr37
  case yr37 => intro w hSw; (try dsimp only at hSw); go_simp; (try with_reducible rfl)
  try simp only [Act.put, List.getElem_toArray, List.getElem_cons_succ, List.getElem_cons_zero, List.setIfInBounds_toArray, List.set_cons_zero, List.set_cons_succ]
  refine wpAnyH_take (i := 38) (v := ?vr38) rfl (by kernel_rfl) (by kernel_rfl) (by kernel_rfl) (fun _ _ _ h => h) (Or.inl ⟨by rfl, ?yr38⟩) hS ?zr38
  case yr38 => intro w hSw; (try dsimp only at hSw); go_simp; (try with_reducible rfl)
  try simp only [Act.put, List.getElem_toArray, List.getElem_cons_succ, List.getElem_cons_zero, List.setIfInBounds_toArray, List.set_cons_zero, List.set_cons_succ]
  refine wpAnyH_take (i := 39) (v := ?vr39) rfl (by kernel_rfl) (by kernel_rfl) (by kernel_rfl) (fun _ _ _ h => h) (Or.inl ⟨by rfl, ?yr39⟩) hS ?zr39
  case yr39 => intro w hSw; (try dsimp only at hSw); go_simp; (try with_reducible rfl)
  try simp only [Act.put, List.getElem_toArray, List.getElem_cons_succ, List.getElem_cons_zero, List.setIfInBounds_toArray, List.set_cons_zero, List.set_cons_succ]
  refine wpAnyH_take (i := 40) (v := ?vr40) rfl (by kernel_rfl) (by kernel_rfl) (by kernel_rfl) (fun _ _ _ h => h) (Or.inl ⟨by rfl, ?yr40⟩) hS ?zr40
  case yr40 => intro w hSw; (try dsimp only at hSw); go_simp; (try with_reducible rfl)
  try simp only [Act.put, List.getElem_toArray, List.getElem_cons_succ, List.getElem_cons_zero, List.setIfInBounds_toArray, List.set_cons_zero, List.set_cons_succ]
  refine wpAnyH_take (i := 41) (v := ?vr41) rfl (by kernel_rfl) (by kernel_rfl) (by kernel_rfl) (fun _ _ _ h => h) (Or.inl ⟨by rfl, ?yr41⟩) hS ?zr41
  case yr41 => intro w hSw; (try dsimp only at hSw); go_simp; (try with_reducible rfl)
  try simp only [Act.put, List.getElem_toArray, List.getElem_cons_succ, List.getElem_cons_zero, List.setIfInBounds_toArray, List.set_cons_zero, List.set_cons_succ]
  refine wpAnyH_take (i := 42) rfl (by kernel_rfl) (by kernel_rfl) (by kernel_rfl) (fun _ _ _ h => h) (yieldsIf_load_mid (by rfl) _ _ rfl _ _ rfl cl _ (fun w hS => hS.1) hd rfl hi) hS ?_
  try simp only [Act.put, List.getElem_toArray, List.getElem_cons_succ, List.getElem_cons_zero, List.setIfInBounds_toArray, List.set_cons_zero, List.set_cons_succ]
  refine wpAnyH_take (i := 44) rfl (by kernel_rfl) (by kernel_rfl) (by kernel_rfl) (fun _ _ _ h => h) (yieldsIf_load_mid (by rfl) _ _ rfl _ _ rfl cl _ (fun w hS => hS.1) hd rfl hi) hS ?_
  try simp only [Act.put, List.getElem_toArray, List.getElem_cons_succ, List.getElem_cons_zero, List.setIfInBounds_toArray, List.set_cons_zero, List.set_cons_succ]
  refine wpAnyH_ready (rs := [43]) (by kernel_rfl) (by simp) (AllReadyH.cons rfl (fun K hK => ?_) AllReadyH.nil)
  go_simp
  refine (HSw.out _).mono ?_
  rintro en v2 ⟨rfl, hb⟩
  have hS' := mk_next hS (Nat.le_refl _) hb
  clear hS hb
  refine hK.out _ _ hS' (fun hS => ?_)
  clear hK hS' K
  try simp only [Act.put, List.getElem_toArray, List.getElem_cons_succ, List.getElem_cons_zero, List.setIfInBounds_toArray, List.set_cons_zero, List.set_cons_succ]
  refine wpAnyH_ready (rs := [45]) (by kernel_rfl) (by simp) (AllReadyH.cons rfl (fun K hK => ?_) AllReadyH.nil)
  go_simp
  refine (HSr.out _).mono ?_
  rintro en v3 ⟨rfl, hb⟩
  have hS' := mk_next hS (Nat.le_refl _) hb
  clear hS hb
  refine hK.out _ _ hS' (fun hS => ?_)
  clear hK hS' K
  try simp only [Act.put, List.getElem_toArray, List.getElem_cons_succ, List.getElem_cons_zero, List.setIfInBounds_toArray, List.set_cons_zero, List.set_cons_succ]
  refine wpAnyH_take (i := 46) (v := ?vr46) rfl (by kernel_rfl) (by kernel_rfl) (by kernel_rfl) (fun _ _ _ h => h) (Or.inl ⟨by rfl, ?yr46⟩) hS ?zr46
  case yr46 => intro w hSw; (try dsimp only at hSw); go_simp; (try with_reducible rfl)
  try simp only [Act.put, List.getElem_toArray, List.getElem_cons_succ, List.getElem_cons_zero, List.setIfInBounds_toArray, List.set_cons_zero, List.set_cons_succ]
  refine wpAnyH_take (i := 47) (v := ?vr47) rfl (by kernel_rfl) (by kernel_rfl) (by kernel_rfl) (fun _ _ _ h => h) (Or.inl ⟨by rfl, ?yr47⟩) hS ?zr47
  case yr47 => intro w hSw; (try dsimp only at hSw); go_simp; (try with_reducible rfl)
  try simp only [Act.put, List.getElem_toArray, List.getElem_cons_succ, List.getElem_cons_zero, List.setIfInBounds_toArray, List.set_cons_zero, List.set_cons_succ]
  refine wpAnyH_take (i := 48) (v := ?vr48) rfl (by kernel_rfl) (by kernel_rfl) (by kernel_rfl) (fun _ _ _ h => h) (Or.inl ⟨by rfl, ?yr48⟩) hS ?zr48
  case yr48 => intro w hSw; (try dsimp only at hSw); go_simp; (try with_reducible rfl)
  try simp only [Act.put, List.getElem_toArray, List.getElem_cons_succ, List.getElem_cons_zero, List.setIfInBounds_toArray, List.set_cons_zero, List.set_cons_succ]
  refine wpAnyH_done (by kernel_rfl) ?_ _
  obtain ⟨-, hb⟩ := hS
  have HB := Lib.hid hb.out
  clear hb hr
  go_wp2
  go_ret
  exact ⟨rfl, HB.out⟩

end Go.Proofs.Ytmihnoiofbfbhaa
