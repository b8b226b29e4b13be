/- Chapter 17: Step, whatever the list and the queue. -/
import Derived.Test.YtbafgipegekbcaaPtF
namespace Go.Proofs.Ytbafgipegekbcaa
open Go.RowKit
set_option linter.unusedSimpArgs false
set_option linter.unusedVariables false
set_option maxRecDepth 20000

set_option maxHeartbeats 16000000 in
theorem step_none (vs : List Val) (A : Option Addr) (n cap capq : Nat) (c : Cfg) (w : World) (hR : Row Val.list w A n vs) (hn : n ≤ 60) (hmg : 0 ≤ c.parts ∧ c.parts ≤ 4096) :
    Calls Try.prog 8 #[.slice A n cap, .slice none 0 capq, .agg c.list.toArray] w (StepP n vs [] 0 w) := by
  have HC0 := Lib.hid (CfgAt.new w c)
  have HB0 := Lib.hid ((Below.refl w.heap.size w).alloc (Nat.le_refl _) (.cells c.list.toArray 26))
  have HCl := Lib.hid (clone_any vs A n cap _ (hR.alloc (.cells c.list.toArray 26)) (by omega))
  clear hR
  have hmin : (if c.parts < (0 : Int) then c.parts else (0 : Int)) = 0 := by split <;> omega
  go_enter Try.func8, Try.ntmps8
  go_wp2_with fail
  refine HCl.out.mono ?_
  rintro en w1 ⟨vo, rfl, hown, hb⟩
  obtain ⟨Ao, co, rfl⟩ := own_slice hown
  have hC1 := HC0.out.call hb
  have hb' : Below w.heap.size w w1 := HB0.out.trans (hb.mono HB0.out.size)
  have hp1 : w.heap.size ≤ w1.heap.size := hb'.size
  have HP0 : Hid (PS w.heap.size w1.heap.size w.heap.size (w1.heap.size + 1) w c n (.slice Ao n co) (.slice none 0 0) vs [] ((w1.alloc (.cells #[.slice Ao n co] 22)).alloc (.cells #[.slice none 0 0] 29))) := by
    have hn2 := Nb.new (w1.alloc (.cells #[.slice Ao n co] 22)) (.cells #[.slice none 0 0] 29)
    refine ⟨Nb.alloc (Nb.new _ _), (hC1.alloc _).alloc _, by simpa using hn2, ?_, World.ownsRow_nil _ _ _ _, (hb'.alloc hp1 _).alloc (by simp; omega) _, ⟨hp1, Nat.le_refl _, by omega⟩⟩
    have h0 := (hown.alloc (.cells #[.slice Ao n co] 22)).alloc (.cells #[.slice none 0 0] 29)
    obtain ⟨h1, h2⟩ := h0
    refine ⟨h1, ?_⟩
    rcases h2 with h2 | ⟨g, cp, cur, hv, hg, r⟩
    · exact .inl h2
    · exact .inr ⟨g, cp, cur, hv, by simp at hg; omega, r⟩
  have e16 : ((w1.alloc (.cells #[.slice Ao n co] 22)).alloc (.cells #[.slice none 0 0] 29)).cell? ⟨w.heap.size, 16, none⟩ = some (.int .i64 c.parts) := HP0.out.hc.c16
  clear hC1 hown hb hb'
  go_wp2_with fail
  clear e16
  refine wp_loop_rounds 1 ?_
  rw [rounds_succ]
  go_upto_region 10 with fail
  have HP3 : Hid (PS w.heap.size w1.heap.size w.heap.size (w1.heap.size + 1) w c n (.slice Ao n co) (.slice none 0 0) vs [] ((w1.alloc (.cells #[.slice Ao n co] 22)).alloc (.cells #[.slice none 0 0] 29)).drew) := HP0.out.call (below_drewN (Below.refl _ _) 1)
  clear HP0
  generalize hbo : w1.heap.size + 1 = bp at *
  refine wp_region_held_drew (S := fun w' => Nb w' w1.heap.size (.cells #[.slice Ao n co] 22 (0, 0)) ∧ Nb w' bp (.cells #[.slice none 0 0] 29 (0, 0))) (by kernel_rfl) ⟨HP3.out.ho, HP3.out.hp⟩ (fun hS => ?_)
  generalize hwn : ((w1.alloc (.cells #[.slice Ao n co] 22)).alloc (.cells #[.slice none 0 0] 29)).drew = w4 at *
  clear hwn
  refine wpAnyH_take (i := 0) (v := ?v0_1) rfl (by kernel_rfl) (by kernel_rfl) (by kernel_rfl) (fun _ _ _ h => h) (Or.inl ⟨by rfl, ?y0_1⟩) hS ?z0_1
  case y0_1 => intro w hSw; have e := (hSw.1).cell (i := 0); simp only [List.getElem?_toArray, List.getElem?_cons_zero] at e; clear hSw; go_simp; (try with_reducible rfl)
  try simp only [Act.put, List.getElem_toArray, List.getElem_cons_succ, List.getElem_cons_zero, List.setIfInBounds_toArray, List.set_cons_zero, List.set_cons_succ]
  refine wpAnyH_take (i := 1) (v := ?v1_2) rfl (by kernel_rfl) (by kernel_rfl) (by kernel_rfl) (fun _ _ _ h => h) (Or.inl ⟨by rfl, ?y1_2⟩) hS ?z1_2
  case y1_2 => intro w hSw; have e := (hSw.2).cell (i := 0); simp only [List.getElem?_toArray, List.getElem?_cons_zero] at e; clear hSw; go_simp; (try with_reducible rfl)
  try simp only [Act.put, List.getElem_toArray, List.getElem_cons_succ, List.getElem_cons_zero, List.setIfInBounds_toArray, List.set_cons_zero, List.set_cons_succ]
  refine wpAnyH_take (i := 3) (v := ?v3_3) rfl (by kernel_rfl) (by kernel_rfl) (by kernel_rfl) (fun _ _ _ h => h) (Or.inl ⟨by rfl, ?y3_3⟩) hS ?z3_3
  case y3_3 => intro w hSw; (try dsimp only at hSw); go_simp; (try with_reducible rfl)
  try simp only [Act.put, List.getElem_toArray, List.getElem_cons_succ, List.getElem_cons_zero, List.setIfInBounds_toArray, List.set_cons_zero, List.set_cons_succ]
  refine wpAnyH_ready (rs := [2]) (by kernel_rfl) (by simp) (AllReadyH.cons rfl (fun K hK => ?_) AllReadyH.nil)
  go_simp
  refine (positive_any HP3.out.op (by simp)).mono ?_
  rintro en w5 ⟨Af, mf, cf, rfl, hrf, hgf⟩
  have HRf := Lib.hid hrf
  have hS5 : Nb w5 w1.heap.size (.cells #[.slice Ao n co] 22 (0, 0)) ∧ Nb w5 bp (.cells #[.slice none 0 0] 29 (0, 0)) :=
    ⟨(hgf.block _ HP3.out.ho.lt (fun e => own_nb_ne HP3.out.op HP3.out.ho (by decide) e.symm)).trans HP3.out.ho, (hgf.block _ HP3.out.hp.lt (fun e => own_nb_ne HP3.out.op HP3.out.hp (by decide) e.symm)).trans HP3.out.hp⟩
  have HRo := Lib.hid (HP3.out.oo.kept hgf (own_ne HP3.out.oo HP3.out.op (by decide)))
  have HBf := Lib.hid (HP3.out.hb.grown hgf (by have := HP3.out.ho.lt; have := HP3.out.l; omega) (fun k hk => (HP3.out.op.lt k hk).1))
  clear hrf hgf HP3
  refine hK.out _ _ hS5 (fun hS => ?_)
  clear hK K
  try simp only [Act.put, List.getElem_toArray, List.getElem_cons_succ, List.getElem_cons_zero, List.setIfInBounds_toArray, List.set_cons_zero, List.set_cons_succ]
  refine wpAnyH_take (i := 4) (v := ?v4_4) rfl (by kernel_rfl) (by kernel_rfl) (by kernel_rfl) (fun _ _ _ h => h) (Or.inl ⟨by rfl, ?y4_4⟩) hS ?z4_4
  case y4_4 => intro w hSw; (try dsimp only at hSw); go_simp; (try with_reducible rfl)
  try simp only [Act.put, List.getElem_toArray, List.getElem_cons_succ, List.getElem_cons_zero, List.setIfInBounds_toArray, List.set_cons_zero, List.set_cons_succ]
  refine wpAnyH_take (i := 5) (v := ?v5_5) rfl (by kernel_rfl) (by kernel_rfl) (by kernel_rfl) (fun _ _ _ h => h) (Or.inl ⟨by rfl, ?y5_5⟩) hS ?z5_5
  case y5_5 => intro w hSw; (try dsimp only at hSw); go_simp; (try with_reducible rfl)
  try simp only [Act.put, List.getElem_toArray, List.getElem_cons_succ, List.getElem_cons_zero, List.setIfInBounds_toArray, List.set_cons_zero, List.set_cons_succ]
  refine wpAnyH_take (i := 6) (v := ?v6_6) rfl (by kernel_rfl) (by kernel_rfl) (by kernel_rfl) (fun _ _ _ h => h) (Or.inl ⟨by rfl, ?y6_6⟩) hS ?z6_6
  case y6_6 => intro w hSw; (try dsimp only at hSw); go_simp; (try with_reducible rfl)
  try simp only [Act.put, List.getElem_toArray, List.getElem_cons_succ, List.getElem_cons_zero, List.setIfInBounds_toArray, List.set_cons_zero, List.set_cons_succ]
  refine wpAnyH_done (by kernel_rfl) ?_ _
  go_wp2_with fail
  refine bodyPost_ret (results_tmp3 rfl _ _ _) rfl ?_
  exact ⟨Ao, co, Af, mf, cf, rfl, HRo.out, HRf.out, HBf.out⟩


set_option maxHeartbeats 16000000 in
theorem step_zero (ad : Addr) (vs : List Val) (A : Option Addr) (n cap capq : Nat) (c : Cfg) (w : World) (hR : Row Val.list w A n vs) (hn : n ≤ 60) (hmg : 0 ≤ c.parts ∧ c.parts ≤ 4096) :
    Calls Try.prog 8 #[.slice A n cap, .slice (some ad) 0 capq, .agg c.list.toArray] w (StepP n vs [] 0 w) := by
  have HC0 := Lib.hid (CfgAt.new w c)
  have HB0 := Lib.hid ((Below.refl w.heap.size w).alloc (Nat.le_refl _) (.cells c.list.toArray 26))
  have HCl := Lib.hid (clone_any vs A n cap _ (hR.alloc (.cells c.list.toArray 26)) (by omega))
  clear hR
  have hmin : (if c.parts < (0 : Int) then c.parts else (0 : Int)) = 0 := by split <;> omega
  go_enter Try.func8, Try.ntmps8
  go_wp2_with fail
  refine HCl.out.mono ?_
  rintro en w1 ⟨vo, rfl, hown, hb⟩
  obtain ⟨Ao, co, rfl⟩ := own_slice hown
  have hC1 := HC0.out.call hb
  have hb' : Below w.heap.size w w1 := HB0.out.trans (hb.mono HB0.out.size)
  have hp1 : w.heap.size ≤ w1.heap.size := hb'.size
  have HP0 : Hid (PS w.heap.size w1.heap.size w.heap.size (w1.heap.size + 1) w c n (.slice Ao n co) (.slice none 0 0) vs [] ((w1.alloc (.cells #[.slice Ao n co] 22)).alloc (.cells #[.slice none 0 0] 29))) := by
    have hn2 := Nb.new (w1.alloc (.cells #[.slice Ao n co] 22)) (.cells #[.slice none 0 0] 29)
    refine ⟨Nb.alloc (Nb.new _ _), (hC1.alloc _).alloc _, by simpa using hn2, ?_, World.ownsRow_nil _ _ _ _, (hb'.alloc hp1 _).alloc (by simp; omega) _, ⟨hp1, Nat.le_refl _, by omega⟩⟩
    have h0 := (hown.alloc (.cells #[.slice Ao n co] 22)).alloc (.cells #[.slice none 0 0] 29)
    obtain ⟨h1, h2⟩ := h0
    refine ⟨h1, ?_⟩
    rcases h2 with h2 | ⟨g, cp, cur, hv, hg, r⟩
    · exact .inl h2
    · exact .inr ⟨g, cp, cur, hv, by simp at hg; omega, r⟩
  have e16 : ((w1.alloc (.cells #[.slice Ao n co] 22)).alloc (.cells #[.slice none 0 0] 29)).cell? ⟨w.heap.size, 16, none⟩ = some (.int .i64 c.parts) := HP0.out.hc.c16
  clear hC1 hown hb hb'
  go_wp2_with fail
  clear e16
  refine wp_loop_rounds 1 ?_
  rw [rounds_succ]
  go_upto_region 10 with fail
  have HP3 : Hid (PS w.heap.size w1.heap.size w.heap.size (w1.heap.size + 1) w c n (.slice Ao n co) (.slice none 0 0) vs [] ((w1.alloc (.cells #[.slice Ao n co] 22)).alloc (.cells #[.slice none 0 0] 29)).drew) := HP0.out.call (below_drewN (Below.refl _ _) 1)
  clear HP0
  generalize hbo : w1.heap.size + 1 = bp at *
  refine wp_region_held_drew (S := fun w' => Nb w' w1.heap.size (.cells #[.slice Ao n co] 22 (0, 0)) ∧ Nb w' bp (.cells #[.slice none 0 0] 29 (0, 0))) (by kernel_rfl) ⟨HP3.out.ho, HP3.out.hp⟩ (fun hS => ?_)
  generalize hwn : ((w1.alloc (.cells #[.slice Ao n co] 22)).alloc (.cells #[.slice none 0 0] 29)).drew = w4 at *
  clear hwn
  refine wpAnyH_take (i := 0) (v := ?v0_7) rfl (by kernel_rfl) (by kernel_rfl) (by kernel_rfl) (fun _ _ _ h => h) (Or.inl ⟨by rfl, ?y0_7⟩) hS ?z0_7
  case y0_7 => intro w hSw; have e := (hSw.1).cell (i := 0); simp only [List.getElem?_toArray, List.getElem?_cons_zero] at e; clear hSw; go_simp; (try with_reducible rfl)
  try simp only [Act.put, List.getElem_toArray, List.getElem_cons_succ, List.getElem_cons_zero, List.setIfInBounds_toArray, List.set_cons_zero, List.set_cons_succ]
  refine wpAnyH_take (i := 1) (v := ?v1_8) rfl (by kernel_rfl) (by kernel_rfl) (by kernel_rfl) (fun _ _ _ h => h) (Or.inl ⟨by rfl, ?y1_8⟩) hS ?z1_8
  case y1_8 => intro w hSw; have e := (hSw.2).cell (i := 0); simp only [List.getElem?_toArray, List.getElem?_cons_zero] at e; clear hSw; go_simp; (try with_reducible rfl)
  try simp only [Act.put, List.getElem_toArray, List.getElem_cons_succ, List.getElem_cons_zero, List.setIfInBounds_toArray, List.set_cons_zero, List.set_cons_succ]
  refine wpAnyH_take (i := 3) (v := ?v3_9) rfl (by kernel_rfl) (by kernel_rfl) (by kernel_rfl) (fun _ _ _ h => h) (Or.inl ⟨by rfl, ?y3_9⟩) hS ?z3_9
  case y3_9 => intro w hSw; (try dsimp only at hSw); go_simp; (try with_reducible rfl)
  try simp only [Act.put, List.getElem_toArray, List.getElem_cons_succ, List.getElem_cons_zero, List.setIfInBounds_toArray, List.set_cons_zero, List.set_cons_succ]
  refine wpAnyH_ready (rs := [2]) (by kernel_rfl) (by simp) (AllReadyH.cons rfl (fun K hK => ?_) AllReadyH.nil)
  go_simp
  refine (positive_any HP3.out.op (by simp)).mono ?_
  rintro en w5 ⟨Af, mf, cf, rfl, hrf, hgf⟩
  have HRf := Lib.hid hrf
  have hS5 : Nb w5 w1.heap.size (.cells #[.slice Ao n co] 22 (0, 0)) ∧ Nb w5 bp (.cells #[.slice none 0 0] 29 (0, 0)) :=
    ⟨(hgf.block _ HP3.out.ho.lt (fun e => own_nb_ne HP3.out.op HP3.out.ho (by decide) e.symm)).trans HP3.out.ho, (hgf.block _ HP3.out.hp.lt (fun e => own_nb_ne HP3.out.op HP3.out.hp (by decide) e.symm)).trans HP3.out.hp⟩
  have HRo := Lib.hid (HP3.out.oo.kept hgf (own_ne HP3.out.oo HP3.out.op (by decide)))
  have HBf := Lib.hid (HP3.out.hb.grown hgf (by have := HP3.out.ho.lt; have := HP3.out.l; omega) (fun k hk => (HP3.out.op.lt k hk).1))
  clear hrf hgf HP3
  refine hK.out _ _ hS5 (fun hS => ?_)
  clear hK K
  try simp only [Act.put, List.getElem_toArray, List.getElem_cons_succ, List.getElem_cons_zero, List.setIfInBounds_toArray, List.set_cons_zero, List.set_cons_succ]
  refine wpAnyH_take (i := 4) (v := ?v4_10) rfl (by kernel_rfl) (by kernel_rfl) (by kernel_rfl) (fun _ _ _ h => h) (Or.inl ⟨by rfl, ?y4_10⟩) hS ?z4_10
  case y4_10 => intro w hSw; (try dsimp only at hSw); go_simp; (try with_reducible rfl)
  try simp only [Act.put, List.getElem_toArray, List.getElem_cons_succ, List.getElem_cons_zero, List.setIfInBounds_toArray, List.set_cons_zero, List.set_cons_succ]
  refine wpAnyH_take (i := 5) (v := ?v5_11) rfl (by kernel_rfl) (by kernel_rfl) (by kernel_rfl) (fun _ _ _ h => h) (Or.inl ⟨by rfl, ?y5_11⟩) hS ?z5_11
  case y5_11 => intro w hSw; (try dsimp only at hSw); go_simp; (try with_reducible rfl)
  try simp only [Act.put, List.getElem_toArray, List.getElem_cons_succ, List.getElem_cons_zero, List.setIfInBounds_toArray, List.set_cons_zero, List.set_cons_succ]
  refine wpAnyH_take (i := 6) (v := ?v6_12) rfl (by kernel_rfl) (by kernel_rfl) (by kernel_rfl) (fun _ _ _ h => h) (Or.inl ⟨by rfl, ?y6_12⟩) hS ?z6_12
  case y6_12 => intro w hSw; (try dsimp only at hSw); go_simp; (try with_reducible rfl)
  try simp only [Act.put, List.getElem_toArray, List.getElem_cons_succ, List.getElem_cons_zero, List.setIfInBounds_toArray, List.set_cons_zero, List.set_cons_succ]
  refine wpAnyH_done (by kernel_rfl) ?_ _
  go_wp2_with fail
  refine bodyPost_ret (results_tmp3 rfl _ _ _) rfl ?_
  exact ⟨Ao, co, Af, mf, cf, rfl, HRo.out, HRf.out, HBf.out⟩


theorem step_any (vs : List Val) (A : Option Addr) (n cap : Nat) (rs : List Req) (Aq : Option Addr) (m capq : Nat) (c : Cfg) (w : World) (hR : Row Val.list w A n vs) (hn : n ≤ 60) (hok : AllOk vs) (hc : 0 ≤ c.minBal)
    (hq : Row Req.list w Aq m rs) (hm6 : m ≤ 60) (hcq : m ≤ capq) (hmg : 0 ≤ c.parts ∧ c.parts ≤ 4096) (hrs : ∀ r ∈ rs, r.Ok) :
    Calls Try.prog 8 #[.slice A n cap, .slice Aq m capq, .agg c.list.toArray] w (StepP n (pfold c vs (rs.take (min m c.parts.toNat))).1 (pfold c vs (rs.take (min m c.parts.toNat))).2 (min m c.parts.toNat) w) := by
  obtain ⟨h1, h2⟩ := hq
  cases Aq with
  | none =>
    have hps : rs = [] := by
      rcases h2 with h2 | ⟨b, o, h2, _⟩
      · exact h2
      · cases h2
    subst hps
    have hm0 : m = 0 := by simpa using h1
    subst hm0
    simpa [pfold] using step_none vs A n cap capq c w hR hn hmg
  | some ad =>
    by_cases hps : rs = []
    · subst hps
      have hm0 : m = 0 := by simpa using h1
      subst hm0
      simpa [pfold] using step_zero ad vs A n cap capq c w hR hn hmg
    · rcases h2 with h2 | ⟨b, o, h2, hb, hr⟩
      · exact absurd h2 hps
      · cases h2
        exact step_some vs A n cap rs b o m capq _ c w hR hn hok hc hr hb h1 hm6 hcq rfl hmg hrs

end Go.Proofs.Ytbafgipegekbcaa
