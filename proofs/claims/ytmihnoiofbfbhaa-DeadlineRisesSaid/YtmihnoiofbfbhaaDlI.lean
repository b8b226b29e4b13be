/- Chapter 18: the reference's Pay; Default; alive. -/
import Derived.Test.YtmihnoiofbfbhaaDlH
namespace Go.Proofs.Ytmihnoiofbfbhaa
open Go.RowKit
set_option linter.unusedSimpArgs false

set_option maxHeartbeats 2000000 in
theorem refpay_any {e a wt : Int} {c : Cfg} (g : Good a wt c) (w : World) :
    Calls Try.prog 17 #[.int .i64 e, .int .u64 a, .int .u64 wt, .agg c.list.toArray] w (Ans (Pl.bound e (Pl.bnd a wt c.forced c.minChurn) [c.unb, Pl.swp c.capacity c.visits c.pays c.parts c.epl]) w) := by
  obtain ⟨wb, hwb⟩ : ∃ wb, wb = w.alloc (.cells c.list.toArray 26) := ⟨_, rfl⟩
  have hn : CfgAt wb w.heap.size c := by rw [hwb]; exact CfgAt.new w c
  have hB : Below w.heap.size w wb := by rw [hwb]; exact (Below.refl w.heap.size w).alloc (Nat.le_refl _) _
  have hsz : w.heap.size + 1 ≤ wb.heap.size := by rw [hwb]; simp
  have hr : wb.drew.rangeAt w.heap.size 0 c.list ∧ wb.drew.cell? ⟨w.heap.size, 10, none⟩ = some (.int .i64 c.unb) ∧ Hid (Below (w.heap.size + 1) wb wb.drew) := ⟨hn.range, hn.c10, (Below.refl _ _).drew⟩
  have hi : (Try.prog.info? 26).map (·.size) = some c.list.length := by kernel_rfl
  obtain ⟨fs, hd⟩ : ∃ fs, Try.prog.underlying 26 = some (.struct fs) := ⟨_, Try.underlying26⟩
  have HSW := Lib.hid (fun w => refsweep_good g.ok w)
  have hs := swp_good g.ok
  have hu := g.ok.h11
  rw [← Pl.bound_pay e c.unb (Pl.swp c.capacity c.visits c.pays c.parts c.epl) _ (by omega) hs.1]
  have hw1 : IntKind.i64.wrap (c.unb + Pl.swp c.capacity c.visits c.pays c.parts c.epl) = c.unb + Pl.swp c.capacity c.visits c.pays c.parts c.epl := IntWalk.i64_in _ (by omega)
  clear hs hu
  have HBo := Lib.hid (fun m w => refbound_any g (e := e) (m := m) w)
  have HB := Lib.hid hB
  have HW := Lib.hid hwb
  clear hwb hB hn g
  generalize hclg : c.list = cl at *
  clear hclg
  generalize c.unb = x10 at *
  generalize Pl.swp c.capacity c.visits c.pays c.parts c.epl = sw at *
  generalize hbd : Pl.bnd a wt c.forced c.minChurn = bo at *
  clear hbd
  go_enter Try.func17, Try.ntmps17
  go_wp2_with fail
  rw [← HW.out]
  refine wp_region_held_drew (S := fun w' => w'.rangeAt w.heap.size 0 cl ∧ w'.cell? ⟨w.heap.size, 10, none⟩ = some (.int .i64 x10) ∧ Hid (Below (w.heap.size + 1) wb w')) (by kernel_rfl) hr (fun hS => ?_)
  refine wpAnyH_take (i := 0) (v := ?vr0) rfl (by kernel_rfl) (by kernel_rfl) (by kernel_rfl) (fun _ _ _ h => h) (Or.inl ⟨by rfl, ?yr0⟩) hS ?zr0
  case yr0 => intro w hSw; (try dsimp only at hSw); go_simp; (try with_reducible rfl)
  try simp only [Act.put, List.getElem_toArray, List.getElem_cons_succ, List.getElem_cons_zero, List.setIfInBounds_toArray, List.set_cons_zero, List.set_cons_succ]
  refine wpAnyH_take (i := 1) (v := ?vr1) rfl (by kernel_rfl) (by kernel_rfl) (by kernel_rfl) (fun _ _ _ h => h) (Or.inl ⟨by rfl, ?yr1⟩) hS ?zr1
  case yr1 => intro w hSw; (try dsimp only at hSw); go_simp; (try with_reducible rfl)
  try simp only [Act.put, List.getElem_toArray, List.getElem_cons_succ, List.getElem_cons_zero, List.setIfInBounds_toArray, List.set_cons_zero, List.set_cons_succ]
  refine wpAnyH_take (i := 2) (v := ?vr2) rfl (by kernel_rfl) (by kernel_rfl) (by kernel_rfl) (fun _ _ _ h => h) (Or.inl ⟨by rfl, ?yr2⟩) hS ?zr2
  case yr2 => intro w hSw; (try dsimp only at hSw); go_simp; (try with_reducible rfl)
  try simp only [Act.put, List.getElem_toArray, List.getElem_cons_succ, List.getElem_cons_zero, List.setIfInBounds_toArray, List.set_cons_zero, List.set_cons_succ]
  refine wpAnyH_take (i := 3) rfl (by kernel_rfl) (by kernel_rfl) (by kernel_rfl) (fun _ _ _ h => h) (yieldsIf_load_mid (by rfl) _ _ rfl _ _ rfl cl _ (fun w hS => hS.1) hd rfl hi) hS ?_
  try simp only [Act.put, List.getElem_toArray, List.getElem_cons_succ, List.getElem_cons_zero, List.setIfInBounds_toArray, List.set_cons_zero, List.set_cons_succ]
  refine wpAnyH_take (i := 4) (v := ?vr4) rfl (by kernel_rfl) (by kernel_rfl) (by kernel_rfl) (fun _ _ _ h => h) (Or.inl ⟨by rfl, ?yr4⟩) hS ?zr4
  case yr4 => intro w hSw; (try dsimp only at hSw); go_simp; (try with_reducible rfl)
  try simp only [Act.put, List.getElem_toArray, List.getElem_cons_succ, List.getElem_cons_zero, List.setIfInBounds_toArray, List.set_cons_zero, List.set_cons_succ]
  refine wpAnyH_take (i := 5) (v := ?vr5) rfl (by kernel_rfl) (by kernel_rfl) (by kernel_rfl) (fun _ _ _ h => h) (Or.inl ⟨by rfl, ?yr5⟩) hS ?zr5
  case yr5 => intro w hSw; (try dsimp only at hSw); go_simp; (try with_reducible rfl)
  try simp only [Act.put, List.getElem_toArray, List.getElem_cons_succ, List.getElem_cons_zero, List.setIfInBounds_toArray, List.set_cons_zero, List.set_cons_succ]
  refine wpAnyH_take (i := 6) rfl (by kernel_rfl) (by kernel_rfl) (by kernel_rfl) (fun _ _ _ h => h) (yieldsIf_load_mid (by rfl) _ _ rfl _ _ rfl cl _ (fun w hS => hS.1) hd rfl hi) hS ?_
  try simp only [Act.put, List.getElem_toArray, List.getElem_cons_succ, List.getElem_cons_zero, List.setIfInBounds_toArray, List.set_cons_zero, List.set_cons_succ]
  refine wpAnyH_ready (rs := [7]) (by kernel_rfl) (by simp) (AllReadyH.cons rfl (fun K hK => ?_) AllReadyH.nil)
  go_simp
  refine (HSW.out _).mono ?_
  rintro en w3 ⟨rfl, hb3⟩
  have hS' := mk_next1 hS hsz hb3
  clear hS hb3
  refine hK.out _ _ hS' (fun hS => ?_)
  clear hK hS' K
  try simp only [Act.put, List.getElem_toArray, List.getElem_cons_succ, List.getElem_cons_zero, List.setIfInBounds_toArray, List.set_cons_zero, List.set_cons_succ]
  refine wpAnyH_take (i := 8) (v := ?vr8) rfl (by kernel_rfl) (by kernel_rfl) (by kernel_rfl) (fun _ _ _ h => h) (Or.inl ⟨by rfl, ?yr8⟩) hS ?zr8
  case yr8 => intro w hSw; (try dsimp only at hSw); go_simp; (try with_reducible rfl)
  try simp only [Act.put, List.getElem_toArray, List.getElem_cons_succ, List.getElem_cons_zero, List.setIfInBounds_toArray, List.set_cons_zero, List.set_cons_succ]
  refine wpAnyH_ready (rs := [9]) (by kernel_rfl) (by simp) (AllReadyH.cons rfl (fun K hK => ?_) AllReadyH.nil)
  go_simp
  refine (HBo.out _ _).mono ?_
  rintro en w5 ⟨rfl, hb5⟩
  have hS' := mk_next1 hS hsz hb5
  clear hS hb5
  refine hK.out _ _ hS' (fun hS => ?_)
  clear hK hS' K
  try simp only [Act.put, List.getElem_toArray, List.getElem_cons_succ, List.getElem_cons_zero, List.setIfInBounds_toArray, List.set_cons_zero, List.set_cons_succ]
  refine wpAnyH_take (i := 10) (v := ?vr10) rfl (by kernel_rfl) (by kernel_rfl) (by kernel_rfl) (fun _ _ _ h => h) (Or.inl ⟨by rfl, ?yr10⟩) hS ?zr10
  case yr10 => intro w hSw; (try dsimp only at hSw); go_simp; (try with_reducible rfl)
  try simp only [Act.put, List.getElem_toArray, List.getElem_cons_succ, List.getElem_cons_zero, List.setIfInBounds_toArray, List.set_cons_zero, List.set_cons_succ]
  refine wpAnyH_take (i := 11) (v := ?vr11) rfl (by kernel_rfl) (by kernel_rfl) (by kernel_rfl) (fun _ _ _ h => h) (Or.inl ⟨by rfl, ?yr11⟩) hS ?zr11
  case yr11 => intro w hSw; (try dsimp only at hSw); go_simp; (try with_reducible rfl)
  try simp only [Act.put, List.getElem_toArray, List.getElem_cons_succ, List.getElem_cons_zero, List.setIfInBounds_toArray, List.set_cons_zero, List.set_cons_succ]
  refine wpAnyH_take (i := 12) (v := ?vr12) rfl (by kernel_rfl) (by kernel_rfl) (by kernel_rfl) (fun _ _ _ h => h) (Or.inl ⟨by rfl, ?yr12⟩) hS ?zr12
  case yr12 => intro w hSw; (try dsimp only at hSw); go_simp; (try with_reducible rfl)
  try simp only [Act.put, List.getElem_toArray, List.getElem_cons_succ, List.getElem_cons_zero, List.setIfInBounds_toArray, List.set_cons_zero, List.set_cons_succ]
  refine wpAnyH_take (i := 13) (v := ?vr13) rfl (by kernel_rfl) (by kernel_rfl) (by kernel_rfl) (fun _ _ _ h => h) (Or.inl ⟨by rfl, ?yr13⟩) hS ?zr13
  case yr13 => intro w hSw; (try dsimp only at hSw); go_simp; (try with_reducible rfl)
  try simp only [Act.put, List.getElem_toArray, List.getElem_cons_succ, List.getElem_cons_zero, List.setIfInBounds_toArray, List.set_cons_zero, List.set_cons_succ]
  refine wpAnyH_done (by kernel_rfl) ?_ _
  obtain ⟨-, -, hb⟩ := hS
  have HBb := Lib.hid (HB.out.trans (hb.out.mono (by omega)))
  clear hb hr
  go_wp2
  go_ret2
  exact ⟨rfl, HBb.out⟩

end Go.Proofs.Ytmihnoiofbfbhaa
