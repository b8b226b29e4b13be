/- Chapter 18: the sweep. -/
import Derived.Test.YtmihnoiofbfbhaaDlD
namespace Go.Proofs.Ytmihnoiofbfbhaa
open Go.RowKit
set_option linter.unusedSimpArgs false

theorem CfgAt.range {w : World} {b : Nat} {c : Cfg} (h : CfgAt w b c) : w.rangeAt b 0 c.list := by
  intro j v hj
  have := h.cell j
  rw [Nat.zero_add, this]
  exact hj

set_option maxHeartbeats 400000 in
theorem sweepVisits_any (c : Cfg) (w : World) (h1 : 0 ≤ c.parts) (h2 : c.parts ≤ c.visits) (h3 : c.visits ≤ 4096) :
    Calls Try.prog 48 #[.agg c.list.toArray] w fun e w' => e = .returned (.int .i64 (c.visits - c.parts)) ∧ Below w.heap.size w w' := by
  have hn := CfgAt.new w c
  have e14 := hn.c14
  have e16 := hn.c16
  have hB := Lib.hid ((Below.refl w.heap.size w).alloc (Nat.le_refl _) (.cells c.list.toArray 26))
  clear hn
  generalize c.list = cl at *
  generalize c.visits = x14 at *
  generalize c.parts = x16 at *
  go_enter Try.func48, Try.ntmps48
  go_wp2
  go_ret
  exact ⟨rfl, hB.out⟩

set_option maxHeartbeats 400000 in
theorem sweepPayments_any (c : Cfg) (w : World) (h1 : 0 ≤ c.parts) (h2 : c.parts ≤ c.pays) (h3 : c.pays ≤ 4096) :
    Calls Try.prog 49 #[.agg c.list.toArray] w fun e w' => e = .returned (.int .i64 (c.pays - c.parts)) ∧ Below w.heap.size w w' := by
  have hn := CfgAt.new w c
  have e15 := hn.c15
  have e16 := hn.c16
  have hB := Lib.hid ((Below.refl w.heap.size w).alloc (Nat.le_refl _) (.cells c.list.toArray 26))
  clear hn
  generalize c.list = cl at *
  generalize c.pays = x15 at *
  generalize c.parts = x16 at *
  go_enter Try.func49, Try.ntmps49
  go_wp2
  go_ret
  exact ⟨rfl, hB.out⟩

theorem range_below {w w' : World} {b : Nat} {cs : List Value} (h : w.rangeAt b 0 cs) (hb : Below w.heap.size w w') : w'.rangeAt b 0 cs := by
  intro j v hj
  have := h j v hj
  exact (hb.cell (World.block_lt_of_cell? w _ this)).trans this

/-- What a region that only makes memory keeps: the configuration lies in block b, below B all is as it was in wb. -/
theorem mk_next {B b : Nat} {wb w w' : World} {cl : List Value} (h : w.rangeAt b 0 cl ∧ Hid (Below B wb w)) (hB : B ≤ wb.heap.size) (hb : Below w.heap.size w w') : w'.rangeAt b 0 cl ∧ Hid (Below B wb w') :=
  ⟨range_below h.1 hb, h.2.out.trans (hb.mono (Nat.le_trans hB h.2.out.size))⟩

theorem mk_next1 {B b i : Nat} {wb w w' : World} {cl : List Value} {v : Value} (h : w.rangeAt b 0 cl ∧ w.cell? ⟨b, i, none⟩ = some v ∧ Hid (Below B wb w)) (hB : B ≤ wb.heap.size) (hb : Below w.heap.size w w') :
    w'.rangeAt b 0 cl ∧ w'.cell? ⟨b, i, none⟩ = some v ∧ Hid (Below B wb w') :=
  ⟨range_below h.1 hb, (hb.cell (World.block_lt_of_cell? w _ h.2.1)).trans h.2.1, h.2.2.out.trans (hb.mono (Nat.le_trans hB h.2.2.out.size))⟩

set_option maxHeartbeats 1000000 in
theorem sweepBlocks_any (c : Cfg) (w : World) (h1 : 0 ≤ c.parts) (h2 : c.parts < c.visits) (h3 : c.visits ≤ 4096) (h4 : c.parts < c.pays) (h5 : c.pays ≤ 4096) (h6 : 1 ≤ c.capacity) (h7 : c.capacity ≤ 4096) :
    Calls Try.prog 31 #[.agg c.list.toArray] w fun e w' => e = .returned (.int .i64 (Pl.blocks c.capacity c.visits c.pays c.parts)) ∧ Below w.heap.size w w' := by
  obtain ⟨wb, hwb⟩ : ∃ wb, wb = w.alloc (.cells c.list.toArray 26) := ⟨_, rfl⟩
  have hn : CfgAt wb w.heap.size c := by rw [hwb]; exact CfgAt.new w c
  have hB : Below w.heap.size w wb := by rw [hwb]; exact (Below.refl w.heap.size w).alloc (Nat.le_refl _) _
  have HV := Lib.hid (fun w => sweepVisits_any c w h1 (by omega) h3)
  have HP := Lib.hid (fun w => sweepPayments_any c w h1 (by omega) h5)
  have hsz : w.heap.size + 1 ≤ wb.heap.size := by rw [hwb]; simp
  have hr : wb.drew.rangeAt w.heap.size 0 c.list ∧ Hid (Below (w.heap.size + 1) wb wb.drew) := ⟨hn.range, (Below.refl _ _).drew⟩
  have hi : (Try.prog.info? 26).map (·.size) = some c.list.length := by kernel_rfl
  obtain ⟨fs, hd⟩ : ∃ fs, Try.prog.underlying 26 = some (.struct fs) := ⟨_, Try.underlying26⟩
  have HB := Lib.hid hB
  have HW := Lib.hid hwb
  have hc0 := hn.c0
  have HBL : Hid (Pl.blocks c.capacity c.visits c.pays c.parts = (c.capacity - 1) / (min c.visits c.pays - c.parts) + 1) := rfl
  clear hwb hB hn
  generalize c.list = cl at *
  generalize c.capacity = x0 at *
  generalize c.visits = x14 at *
  generalize c.pays = x15 at *
  generalize c.parts = x16 at *
  generalize Pl.blocks x0 x14 x15 x16 = bl at *
  go_enter Try.func31, Try.ntmps31
  go_wp2_with fail
  rw [← HW.out]
  refine wp_region_held_drew (S := fun w' => w'.rangeAt w.heap.size 0 cl ∧ Hid (Below (w.heap.size + 1) wb w')) (by kernel_rfl) hr (fun hS => ?_)
  refine wpAnyH_take (i := 0) rfl (by kernel_rfl) (by kernel_rfl) (by kernel_rfl) (fun _ _ _ h => h) (yieldsIf_load_mid (by rfl) _ _ rfl _ _ rfl cl _ (fun w hS => hS.1) hd rfl hi) hS ?_
  try simp only [Act.put, List.getElem_toArray, List.getElem_cons_succ, List.getElem_cons_zero, List.setIfInBounds_toArray, List.set_cons_zero, List.set_cons_succ]
  refine wpAnyH_take (i := 2) rfl (by kernel_rfl) (by kernel_rfl) (by kernel_rfl) (fun _ _ _ h => h) (yieldsIf_load_mid (by rfl) _ _ rfl _ _ rfl cl _ (fun w hS => hS.1) hd rfl hi) hS ?_
  try simp only [Act.put, List.getElem_toArray, List.getElem_cons_succ, List.getElem_cons_zero, List.setIfInBounds_toArray, List.set_cons_zero, List.set_cons_succ]
  refine wpAnyH_ready (rs := [1]) (by kernel_rfl) (by simp) (AllReadyH.cons rfl (fun K hK => ?_) AllReadyH.nil)
  go_simp
  refine (HV.out _).mono ?_
  rintro e w' ⟨rfl, hb'⟩
  have hS' := mk_next hS hsz hb'
  clear hb' hS
  refine hK.out _ _ hS' (fun hS => ?_)
  clear hK hS' K
  try simp only [Act.put, List.getElem_toArray, List.getElem_cons_succ, List.getElem_cons_zero, List.setIfInBounds_toArray, List.set_cons_zero, List.set_cons_succ]
  refine wpAnyH_ready (rs := [3]) (by kernel_rfl) (by simp) (AllReadyH.cons rfl (fun K hK => ?_) AllReadyH.nil)
  go_simp
  refine (HP.out _).mono ?_
  rintro e w' ⟨rfl, hb'⟩
  have hS' := mk_next hS hsz hb'
  clear hb' hS
  refine hK.out _ _ hS' (fun hS => ?_)
  clear hK hS' K
  try simp only [Act.put, List.getElem_toArray, List.getElem_cons_succ, List.getElem_cons_zero, List.setIfInBounds_toArray, List.set_cons_zero, List.set_cons_succ]
  refine wpAnyH_take (i := 4) (v := ?vr4) rfl (by kernel_rfl) (by kernel_rfl) (by kernel_rfl) (fun _ _ _ h => h) (Or.inl ⟨by rfl, ?yr4⟩) hS ?zr4
  case yr4 => intro w hSw; (try dsimp only at hSw); go_simp; (try with_reducible rfl)
  try simp only [Act.put, List.getElem_toArray, List.getElem_cons_succ, List.getElem_cons_zero, List.setIfInBounds_toArray, List.set_cons_zero, List.set_cons_succ]
  refine wpAnyH_take (i := 5) (v := ?vr5) rfl (by kernel_rfl) (by kernel_rfl) (by kernel_rfl) (fun _ _ _ h => h) (Or.inl ⟨by rfl, ?yr5⟩) hS ?zr5
  case yr5 => intro w hSw; (try dsimp only at hSw); go_simp; (try with_reducible rfl)
  try simp only [Act.put, List.getElem_toArray, List.getElem_cons_succ, List.getElem_cons_zero, List.setIfInBounds_toArray, List.set_cons_zero, List.set_cons_succ]
  refine wpAnyH_done (by kernel_rfl) ?_ _
  have hi1 : 1 ≤ min x14 x15 - x16 := by omega
  have hmin : (if x15 < x14 then x15 - x16 else x14 - x16) = min x14 x15 - x16 := by split <;> omega
  generalize min x14 x15 - x16 = n at *
  have hn2 : n ≤ 4096 := by split at hmin <;> omega
  have hq0 := Int.ediv_nonneg (a := x0 - 1) (b := n) (by omega) (by omega)
  have hq1 := Int.ediv_le_self (b := n) (a := x0 - 1) (by omega)
  have hc0' := (hS.2.out.cell (p := ⟨w.heap.size, 0, none⟩) (by simp)).trans hc0
  clear hc0 hr
  obtain ⟨-, hb⟩ := hS
  have HBb := Lib.hid (HB.out.trans (hb.out.mono (by omega)))
  clear hb h1 h2 h3 h4 h5
  go_wp2
  all_goals
    go_ret
    exact ⟨ret1 (int_eq HBL.out.symm), HBb.out⟩

set_option maxHeartbeats 1000000 in
theorem refblocks_any (c : Cfg) (w : World) (h1 : 0 ≤ c.parts) (h2 : c.parts < c.visits) (h3 : c.visits ≤ 4096) (h4 : c.parts < c.pays) (h5 : c.pays ≤ 4096) (h6 : 1 ≤ c.capacity) (h7 : c.capacity ≤ 4096) :
    Calls Try.prog 32 #[.agg c.list.toArray] w fun e w' => e = .returned (.int .i64 (Pl.blocks c.capacity c.visits c.pays c.parts)) ∧ Below w.heap.size w w' := by
  have hn := CfgAt.new w c
  have e0 := hn.c0
  have e14 := hn.c14
  have e15 := hn.c15
  have e16 := hn.c16
  have HB := Lib.hid ((Below.refl w.heap.size w).alloc (Nat.le_refl _) (.cells c.list.toArray 26))
  have HBL := Lib.hid (Pl.blocks_cd c.capacity c.visits c.pays c.parts (by omega))
  clear hn
  generalize c.list = cl at *
  generalize c.capacity = x0 at *
  generalize c.visits = x14 at *
  generalize c.pays = x15 at *
  generalize c.parts = x16 at *
  generalize Pl.blocks x0 x14 x15 x16 = bl at *
  have hmin : (if x15 < x14 then x15 else x14) = min x14 x15 := by split <;> omega
  obtain ⟨n, hn⟩ : ∃ n, n = min x14 x15 - x16 := ⟨_, rfl⟩
  rw [← hn] at HBL
  have hn1 : 1 ≤ n := by omega
  have hn2 : n ≤ 4096 := by omega
  have hq0 := Int.ediv_nonneg (a := x0 + n - 1) (b := n) (by omega) (by omega)
  have hq1 := Int.ediv_le_self (b := n) (a := x0 + n - 1) (by omega)
  by_cases hv : x15 < x14
  · have hw : x15 - x16 = n := by omega
    clear hmin hn
    go_enter Try.func32, Try.ntmps32
    go_wp2
    go_ret
    exact ⟨ret1 (int_eq HBL.out), HB.out⟩
  · have hw : x14 - x16 = n := by omega
    clear hmin hn
    go_enter Try.func32, Try.ntmps32
    go_wp2
    go_ret
    exact ⟨ret1 (int_eq HBL.out), HB.out⟩

set_option maxHeartbeats 1000000 in
theorem sweep_any (c : Cfg) (w : World) (h1 : 0 ≤ c.parts) (h2 : c.parts < c.visits) (h3 : c.visits ≤ 4096) (h4 : c.parts < c.pays) (h5 : c.pays ≤ 4096) (h6 : 1 ≤ c.capacity) (h7 : c.capacity ≤ 4096) (h8 : 1 ≤ c.epl) (h9 : c.epl ≤ 4096) :
    Calls Try.prog 18 #[.agg c.list.toArray] w fun e w' => e = .returned (.int .i64 (Pl.swp c.capacity c.visits c.pays c.parts c.epl)) ∧ Below w.heap.size w w' := by
  obtain ⟨wb, hwb⟩ : ∃ wb, wb = w.alloc (.cells c.list.toArray 26) := ⟨_, rfl⟩
  have hn : CfgAt wb w.heap.size c := by rw [hwb]; exact CfgAt.new w c
  have hB : Below w.heap.size w wb := by rw [hwb]; exact (Below.refl w.heap.size w).alloc (Nat.le_refl _) _
  have HV := Lib.hid (fun w => sweepBlocks_any c w h1 h2 h3 h4 h5 h6 h7)
  have hsz : w.heap.size + 1 ≤ wb.heap.size := by rw [hwb]; simp
  have hr : wb.drew.rangeAt w.heap.size 0 c.list ∧ wb.drew.cell? ⟨w.heap.size, 13, none⟩ = some (.int .i64 c.epl) ∧ Hid (Below (w.heap.size + 1) wb wb.drew) := ⟨hn.range, hn.c13, (Below.refl _ _).drew⟩
  have hi : (Try.prog.info? 26).map (·.size) = some c.list.length := by kernel_rfl
  obtain ⟨fs, hd⟩ : ∃ fs, Try.prog.underlying 26 = some (.struct fs) := ⟨_, Try.underlying26⟩
  have HB := Lib.hid hB
  have HW := Lib.hid hwb
  have HBL : Hid (Pl.swp c.capacity c.visits c.pays c.parts c.epl = (Pl.blocks c.capacity c.visits c.pays c.parts - 1) / c.epl) := rfl
  have hb0 := Pl.blocks_pos c.capacity c.visits c.pays c.parts h6 (by omega)
  have hb1 := Pl.blocks_le c.capacity c.visits c.pays c.parts h6
  clear hwb hB hn
  generalize c.list = cl at *
  generalize c.epl = x13 at *
  generalize Pl.swp c.capacity c.visits c.pays c.parts x13 = sw at *
  generalize Pl.blocks c.capacity c.visits c.pays c.parts = bl at *
  generalize c.capacity = x0 at *
  have hb2 : bl ≤ 4096 := by omega
  clear h1 h2 h3 h4 h5 h6 h7 hb1
  obtain ⟨b1, hbb⟩ : ∃ b1, b1 = bl - 1 := ⟨_, rfl⟩
  have hw1 : IntKind.i64.wrap (bl - 1) = b1 := by rw [IntWalk.i64_in _ (by omega), hbb]
  have hq0 := Int.ediv_nonneg (a := b1) (b := x13) (by omega) (by omega)
  have hq1 := Int.ediv_le_self (b := x13) (a := b1) (by omega)
  have hT : Int.tdiv b1 x13 = b1 / x13 := Int.tdiv_eq_ediv_of_nonneg (by omega)
  rw [← hbb] at HBL
  have hx0 : (x13 == 0) = false := by rw [beq_eq_false_iff_ne]; omega
  have hx1 : ¬ x13 = 0 := by omega
  have hbm : b1 ≤ 4096 := by omega
  generalize hqq : b1 / x13 = q at *
  have hw2 : IntKind.i64.wrap q = q := IntWalk.i64_in _ (by omega)
  clear hbb hqq
  go_enter Try.func18, Try.ntmps18
  go_wp2_with fail
  rw [← HW.out]
  refine wp_region_held_drew (S := fun w' => w'.rangeAt w.heap.size 0 cl ∧ w'.cell? ⟨w.heap.size, 13, none⟩ = some (.int .i64 x13) ∧ Hid (Below (w.heap.size + 1) wb w')) (by kernel_rfl) hr (fun hS => ?_)
  refine wpAnyH_take (i := 0) rfl (by kernel_rfl) (by kernel_rfl) (by kernel_rfl) (fun _ _ _ h => h) (yieldsIf_load_mid (by rfl) _ _ rfl _ _ rfl cl _ (fun w hS => hS.1) hd rfl hi) hS ?_
  try simp only [Act.put, List.getElem_toArray, List.getElem_cons_succ, List.getElem_cons_zero, List.setIfInBounds_toArray, List.set_cons_zero, List.set_cons_succ]
  refine wpAnyH_take (i := 3) (v := ?vr3) rfl (by kernel_rfl) (by kernel_rfl) (by kernel_rfl) (fun _ _ _ h => h) (Or.inl ⟨by rfl, ?yr3⟩) hS ?zr3
  case yr3 => intro w hSw; (try dsimp only at hSw); go_simp; (try with_reducible rfl)
  try simp only [Act.put, List.getElem_toArray, List.getElem_cons_succ, List.getElem_cons_zero, List.setIfInBounds_toArray, List.set_cons_zero, List.set_cons_succ]
  refine wpAnyH_take (i := 4) (v := ?vr4) rfl (by kernel_rfl) (by kernel_rfl) (by kernel_rfl) (fun _ _ _ h => h) (Or.inl ⟨by rfl, ?yr4⟩) hS ?zr4
  case yr4 => intro w hSw; (try dsimp only at hSw); go_simp; (try with_reducible rfl)
  try simp only [Act.put, List.getElem_toArray, List.getElem_cons_succ, List.getElem_cons_zero, List.setIfInBounds_toArray, List.set_cons_zero, List.set_cons_succ]
  refine wpAnyH_ready (rs := [1]) (by kernel_rfl) (by simp) (AllReadyH.cons rfl (fun K hK => ?_) AllReadyH.nil)
  go_simp
  refine (HV.out _).mono ?_
  rintro e w' ⟨rfl, hb'⟩
  have hS' := mk_next1 hS hsz hb'
  clear hb' hS
  refine hK.out _ _ hS' (fun hS => ?_)
  clear hK hS' K
  try simp only [Act.put, List.getElem_toArray, List.getElem_cons_succ, List.getElem_cons_zero, List.setIfInBounds_toArray, List.set_cons_zero, List.set_cons_succ]
  refine wpAnyH_take (i := 2) (v := ?vr2) rfl (by kernel_rfl) (by kernel_rfl) (by kernel_rfl) (fun _ _ _ h => h) (Or.inl ⟨by rfl, ?yr2⟩) hS ?zr2
  case yr2 => intro w hSw; (try dsimp only at hSw); go_simp; (try with_reducible rfl)
  try simp only [Act.put, List.getElem_toArray, List.getElem_cons_succ, List.getElem_cons_zero, List.setIfInBounds_toArray, List.set_cons_zero, List.set_cons_succ]
  refine wpAnyH_take (i := 5) (v := ?vr5) rfl (by kernel_rfl) (by kernel_rfl) (by kernel_rfl) (fun _ _ _ h => h) (Or.inl ⟨by rfl, ?yr5⟩) hS ?zr5
  case yr5 => intro w hSw; (try dsimp only at hSw); go_simp; (try with_reducible rfl)
  try simp only [Act.put, List.getElem_toArray, List.getElem_cons_succ, List.getElem_cons_zero, List.setIfInBounds_toArray, List.set_cons_zero, List.set_cons_succ]
  refine wpAnyH_take (i := 6) (v := ?vr6) rfl (by kernel_rfl) (by kernel_rfl) (by kernel_rfl) (fun _ _ _ h => h) (Or.inl ⟨by rfl, ?yr6⟩) hS ?zr6
  case yr6 => intro w hSw; (try dsimp only at hSw); go_simp; (try with_reducible rfl)
  try simp only [Act.put, List.getElem_toArray, List.getElem_cons_succ, List.getElem_cons_zero, List.setIfInBounds_toArray, List.set_cons_zero, List.set_cons_succ]
  refine wpAnyH_done (by kernel_rfl) ?_ _
  obtain ⟨-, -, hb⟩ := hS
  have HBb := Lib.hid (HB.out.trans (hb.out.mono (by omega)))
  clear hb hr
  clear hw1 hw2 hT hx0
  go_wp2
  go_ret
  exact ⟨ret1 (int_eq (by rw [HBL.out])), HBb.out⟩

set_option maxHeartbeats 1000000 in
theorem refsweep_any (c : Cfg) (w : World) (h1 : 0 ≤ c.parts) (h2 : c.parts < c.visits) (h3 : c.visits ≤ 4096) (h4 : c.parts < c.pays) (h5 : c.pays ≤ 4096) (h6 : 1 ≤ c.capacity) (h7 : c.capacity ≤ 4096) (h8 : 1 ≤ c.epl) (h9 : c.epl ≤ 4096) :
    Calls Try.prog 19 #[.agg c.list.toArray] w fun e w' => e = .returned (.int .i64 (Pl.swp c.capacity c.visits c.pays c.parts c.epl)) ∧ Below w.heap.size w w' := by
  obtain ⟨wb, hwb⟩ : ∃ wb, wb = w.alloc (.cells c.list.toArray 26) := ⟨_, rfl⟩
  have hn : CfgAt wb w.heap.size c := by rw [hwb]; exact CfgAt.new w c
  have hB : Below w.heap.size w wb := by rw [hwb]; exact (Below.refl w.heap.size w).alloc (Nat.le_refl _) _
  have HV := Lib.hid (fun w => refblocks_any c w h1 h2 h3 h4 h5 h6 h7)
  have hsz : w.heap.size + 1 ≤ wb.heap.size := by rw [hwb]; simp
  have hr : wb.drew.rangeAt w.heap.size 0 c.list ∧ wb.drew.cell? ⟨w.heap.size, 13, none⟩ = some (.int .i64 c.epl) ∧ Hid (Below (w.heap.size + 1) wb wb.drew) := ⟨hn.range, hn.c13, (Below.refl _ _).drew⟩
  have hi : (Try.prog.info? 26).map (·.size) = some c.list.length := by kernel_rfl
  obtain ⟨fs, hd⟩ : ∃ fs, Try.prog.underlying 26 = some (.struct fs) := ⟨_, Try.underlying26⟩
  have HB := Lib.hid hB
  have HW := Lib.hid hwb
  have HBL : Hid (Pl.swp c.capacity c.visits c.pays c.parts c.epl = (Pl.blocks c.capacity c.visits c.pays c.parts - 1) / c.epl) := rfl
  have hb0 := Pl.blocks_pos c.capacity c.visits c.pays c.parts h6 (by omega)
  have hb1 := Pl.blocks_le c.capacity c.visits c.pays c.parts h6
  clear hwb hB hn
  generalize c.list = cl at *
  generalize c.epl = x13 at *
  generalize Pl.swp c.capacity c.visits c.pays c.parts x13 = sw at *
  generalize Pl.blocks c.capacity c.visits c.pays c.parts = bl at *
  generalize c.capacity = x0 at *
  have hb2 : bl ≤ 4096 := by omega
  clear h1 h2 h3 h4 h5 h6 h7 hb1
  obtain ⟨b1, hbb⟩ : ∃ b1, b1 = bl - 1 := ⟨_, rfl⟩
  have hw1 : IntKind.i64.wrap (bl - 1) = b1 := by rw [IntWalk.i64_in _ (by omega), hbb]
  have hq0 := Int.ediv_nonneg (a := b1) (b := x13) (by omega) (by omega)
  have hq1 := Int.ediv_le_self (b := x13) (a := b1) (by omega)
  have hT : Int.tdiv b1 x13 = b1 / x13 := Int.tdiv_eq_ediv_of_nonneg (by omega)
  rw [← hbb] at HBL
  have hx0 : (x13 == 0) = false := by rw [beq_eq_false_iff_ne]; omega
  have hx1 : ¬ x13 = 0 := by omega
  have hbm : b1 ≤ 4096 := by omega
  generalize hqq : b1 / x13 = q at *
  have hw2 : IntKind.i64.wrap q = q := IntWalk.i64_in _ (by omega)
  clear hbb hqq
  go_enter Try.func19, Try.ntmps19
  go_wp2_with fail
  rw [← HW.out]
  refine wp_region_held_drew (S := fun w' => w'.rangeAt w.heap.size 0 cl ∧ w'.cell? ⟨w.heap.size, 13, none⟩ = some (.int .i64 x13) ∧ Hid (Below (w.heap.size + 1) wb w')) (by kernel_rfl) hr (fun hS => ?_)
  refine wpAnyH_take (i := 0) rfl (by kernel_rfl) (by kernel_rfl) (by kernel_rfl) (fun _ _ _ h => h) (yieldsIf_load_mid (by rfl) _ _ rfl _ _ rfl cl _ (fun w hS => hS.1) hd rfl hi) hS ?_
  try simp only [Act.put, List.getElem_toArray, List.getElem_cons_succ, List.getElem_cons_zero, List.setIfInBounds_toArray, List.set_cons_zero, List.set_cons_succ]
  refine wpAnyH_take (i := 3) (v := ?vr3) rfl (by kernel_rfl) (by kernel_rfl) (by kernel_rfl) (fun _ _ _ h => h) (Or.inl ⟨by rfl, ?yr3⟩) hS ?zr3
  case yr3 => intro w hSw; (try dsimp only at hSw); go_simp; (try with_reducible rfl)
  try simp only [Act.put, List.getElem_toArray, List.getElem_cons_succ, List.getElem_cons_zero, List.setIfInBounds_toArray, List.set_cons_zero, List.set_cons_succ]
  refine wpAnyH_take (i := 4) (v := ?vr4) rfl (by kernel_rfl) (by kernel_rfl) (by kernel_rfl) (fun _ _ _ h => h) (Or.inl ⟨by rfl, ?yr4⟩) hS ?zr4
  case yr4 => intro w hSw; (try dsimp only at hSw); go_simp; (try with_reducible rfl)
  try simp only [Act.put, List.getElem_toArray, List.getElem_cons_succ, List.getElem_cons_zero, List.setIfInBounds_toArray, List.set_cons_zero, List.set_cons_succ]
  refine wpAnyH_ready (rs := [1]) (by kernel_rfl) (by simp) (AllReadyH.cons rfl (fun K hK => ?_) AllReadyH.nil)
  go_simp
  refine (HV.out _).mono ?_
  rintro e w' ⟨rfl, hb'⟩
  have hS' := mk_next1 hS hsz hb'
  clear hb' hS
  refine hK.out _ _ hS' (fun hS => ?_)
  clear hK hS' K
  try simp only [Act.put, List.getElem_toArray, List.getElem_cons_succ, List.getElem_cons_zero, List.setIfInBounds_toArray, List.set_cons_zero, List.set_cons_succ]
  refine wpAnyH_take (i := 2) (v := ?vr2) rfl (by kernel_rfl) (by kernel_rfl) (by kernel_rfl) (fun _ _ _ h => h) (Or.inl ⟨by rfl, ?yr2⟩) hS ?zr2
  case yr2 => intro w hSw; (try dsimp only at hSw); go_simp; (try with_reducible rfl)
  try simp only [Act.put, List.getElem_toArray, List.getElem_cons_succ, List.getElem_cons_zero, List.setIfInBounds_toArray, List.set_cons_zero, List.set_cons_succ]
  refine wpAnyH_take (i := 5) (v := ?vr5) rfl (by kernel_rfl) (by kernel_rfl) (by kernel_rfl) (fun _ _ _ h => h) (Or.inl ⟨by rfl, ?yr5⟩) hS ?zr5
  case yr5 => intro w hSw; (try dsimp only at hSw); go_simp; (try with_reducible rfl)
  try simp only [Act.put, List.getElem_toArray, List.getElem_cons_succ, List.getElem_cons_zero, List.setIfInBounds_toArray, List.set_cons_zero, List.set_cons_succ]
  refine wpAnyH_take (i := 6) (v := ?vr6) rfl (by kernel_rfl) (by kernel_rfl) (by kernel_rfl) (fun _ _ _ h => h) (Or.inl ⟨by rfl, ?yr6⟩) hS ?zr6
  case yr6 => intro w hSw; (try dsimp only at hSw); go_simp; (try with_reducible rfl)
  try simp only [Act.put, List.getElem_toArray, List.getElem_cons_succ, List.getElem_cons_zero, List.setIfInBounds_toArray, List.set_cons_zero, List.set_cons_succ]
  refine wpAnyH_done (by kernel_rfl) ?_ _
  obtain ⟨-, -, hb⟩ := hS
  have HBb := Lib.hid (HB.out.trans (hb.out.mono (by omega)))
  clear hb hr
  clear hw1 hw2 hT hx0
  go_wp2
  go_ret
  exact ⟨ret1 (int_eq (by rw [HBL.out])), HBb.out⟩

end Go.Proofs.Ytmihnoiofbfbhaa
