/- Chapter 17: the walk of Step. -/
import Derived.Test.YtbafgipegekbcaaPtE
namespace Go.Proofs.Ytbafgipegekbcaa
open Go.RowKit
set_option linter.unusedSimpArgs false
set_option linter.unusedVariables false
set_option maxRecDepth 20000

def pfold (c : Cfg) (vs : List Val) (rs : List Req) : List Val × List Pay := rs.foldl (pstep c) (vs, [])
theorem pfold_succ (c : Cfg) (vs : List Val) (rs : List Req) (j : Nat) (h : j < rs.length) : pfold c vs (rs.take (j + 1)) = pstep c (pfold c vs (rs.take j)) rs[j] := by
  unfold pfold
  rw [List.take_succ_eq_append_getElem h, List.foldl_append]
  rfl
theorem pfold_spec {c : Cfg} {vs : List Val} {rs : List Req} (hok : AllOk vs) (hc : 0 ≤ c.minBal) (hr : ∀ r ∈ rs, r.Ok) : ∀ j, j ≤ rs.length → (pfold c vs (rs.take j)).1.length = vs.length ∧ AllOk (pfold c vs (rs.take j)).1 ∧ (pfold c vs (rs.take j)).2.length ≤ j
  | 0, _ => ⟨rfl, hok, by simp [pfold]⟩
  | j + 1, h => by
    obtain ⟨h1, h2, h3⟩ := pfold_spec hok hc hr j (by omega)
    rw [pfold_succ c vs rs j (by omega)]
    obtain ⟨g1, g2, g3⟩ := pstep_spec (c := c) (r := rs[j]) h2 hc (hr _ (List.getElem_mem _))
    exact ⟨g1.trans h1, g2, by omega⟩

/-- What Step answers. -/
def StepP (n : Nat) (us : List Val) (qs : List Pay) (k : Nat) (w : World) (e : Ending) (w' : World) : Prop :=
  ∃ A cap Ap m cp, e = .returned (.tuple #[.slice A n cap, .slice Ap m cp, .int .i64 k]) ∧ w'.ownsRow w.heap.size 35 7 (.slice A n cap) n (flat Val.list us) ∧ Row Pay.list w' Ap m (qs.filter keepB) ∧ Below w.heap.size w w'

set_option maxHeartbeats 16000000 in
theorem step_some (vs : List Val) (A : Option Addr) (n cap : Nat) (rs : List Req) (bq oq m capq k : Nat) (c : Cfg) (w : World) (hR : Row Val.list w A n vs) (hn : n ≤ 60) (hok : AllOk vs) (hc : 0 ≤ c.minBal)
    (hq : w.rangeAt bq oq (flat Req.list rs)) (hbq : bq < w.heap.size) (hml : m = rs.length) (hm6 : m ≤ 60) (hcq : m ≤ capq) (hk : k = min m c.parts.toNat) (hmg : 0 ≤ c.parts ∧ c.parts ≤ 4096) (hrs : ∀ r ∈ rs, r.Ok) :
    Calls Try.prog 8 #[.slice A n cap, .slice (some ⟨bq, oq, none⟩) m capq, .agg c.list.toArray] w (StepP n (pfold c vs (rs.take k)).1 (pfold c vs (rs.take k)).2 k w) := by
  have HC0 := Lib.hid (CfgAt.new w c)
  have HB0 := Lib.hid ((Below.refl w.heap.size w).alloc (Nat.le_refl _) (.cells c.list.toArray 26))
  have HCl := Lib.hid (clone_any vs A n cap _ (hR.alloc (.cells c.list.toArray 26)) (by omega))
  have HQ := Lib.hid hq
  have HK := Lib.hid hk
  have HML := Lib.hid hml
  have hmin : (if c.parts < (m : Int) then c.parts else (m : Int)) = (k : Int) := by split <;> omega
  have HOK := Lib.hid hok
  have HRS := Lib.hid hrs
  have HLn := Lib.hid hR.1
  have hkm : k ≤ m := by omega
  have HSp := Lib.hid (pfold_spec hok hc hrs)
  clear hR hok hq hk hml hrs
  go_enter Try.func8, Try.ntmps8
  go_wp2_with fail
  refine HCl.out.mono ?_
  rintro en w1 ⟨vo, rfl, hown, hb⟩
  obtain ⟨Ao, co, rfl⟩ := own_slice hown
  have hC1 := HC0.out.call hb
  have hb' : Below w.heap.size w w1 := HB0.out.trans (hb.mono HB0.out.size)
  have hp1 : w.heap.size ≤ w1.heap.size := hb'.size
  have HP0 : Hid (PS w.heap.size w1.heap.size w.heap.size (w1.heap.size + 1) w c n (.slice Ao n co) (.slice none 0 0) vs [] ((w1.alloc (.cells #[.slice Ao n co] 22)).alloc (.cells #[.slice none 0 0] 29))) := by
    have hn2 := Nb.new (w1.alloc (.cells #[.slice Ao n co] 22)) (.cells #[.slice none 0 0] 29)
    refine ⟨Nb.alloc (Nb.new _ _), (hC1.alloc _).alloc _, by simpa using hn2, ?_, World.ownsRow_nil _ _ _ _, (hb'.alloc hp1 _).alloc (by simp; omega) _, ⟨hp1, Nat.le_refl _, by omega⟩⟩
    have h0 := (hown.alloc (.cells #[.slice Ao n co] 22)).alloc (.cells #[.slice none 0 0] 29)
    obtain ⟨h1, h2⟩ := h0
    refine ⟨h1, ?_⟩
    rcases h2 with h2 | ⟨g, cp, cur, hv, hg, r⟩
    · exact .inl h2
    · exact .inr ⟨g, cp, cur, hv, by simp at hg; omega, r⟩
  have e16 : ((w1.alloc (.cells #[.slice Ao n co] 22)).alloc (.cells #[.slice none 0 0] 29)).cell? ⟨w.heap.size, 16, none⟩ = some (.int .i64 c.parts) := HP0.out.hc.c16
  clear hC1 hown hb hb'
  go_wp2_with fail
  clear e16
  go_loopg [27] k (fun kk i wr => ∃ (j : Nat) (vp : Value), j + kk = k ∧ i = .int .i64 j ∧ Hid (PS w.heap.size w1.heap.size w.heap.size (w1.heap.size + 1) w c n (.slice Ao n co) vp (pfold c vs (rs.take j)).1 (pfold c vs (rs.take j)).2 wr))
  case atStart => exact ⟨0, _, by omega, rfl, HP0⟩
  case round =>
    obtain ⟨j, vp, hjk, rfl, HP⟩ := hrel
    clear HP0 HC0 HB0 HCl
    have HJ := Lib.hid hjk
    clear hjk
    by_cases hlt : j < k
    · have hjm : j < rs.length := by have := HML.out; omega
      have rp := Row.elem Req.len HQ.out j hjm
      have hro := HRS.out _ (List.getElem_mem hjm)
      obtain ⟨⟨a, b⟩, hpj⟩ : ∃ p, rs[j] = p := ⟨_, rfl⟩
      have hbel : Below w.heap.size w wr := HP.out.hb
      rw [hpj] at rp hro
      have q0 : wr.cell? ⟨bq, oq + j * 2, none⟩ = some (.int .i64 a) := (hbel.cell (p := ⟨bq, oq + j * 2, none⟩) hbq).trans (rp 0 _ rfl)
      have q1 : wr.cell? ⟨bq, oq + j * 2 + 1, none⟩ = some (.int .u64 b) := (hbel.cell (p := ⟨bq, oq + j * 2 + 1, none⟩) hbq).trans (rp 1 _ rfl)
      obtain ⟨s1, s2, s3⟩ := HSp.out j (by omega)
      have HPn := Lib.hid (pay_any (HP.out.call ((Below.refl _ _).alloc (Nat.le_refl _) (.cells #[.int .i64 a, .int .u64 b] 49))) ⟨a, b⟩ hro s2 (s1.trans HLn.out.symm) hc (by omega) (by omega))
      have HU : Hid (pfold c vs (rs.take (j + 1)) = pstep c (pfold c vs (rs.take j)) ⟨a, b⟩) := by rw [Hid, pfold_succ c vs rs j hjm, hpj]
      clear rp hpj hbel hro s1 s2 s3
      have hjk1 : (j : Int) < (k : Int) := by omega
      have hj0 : (0 : Int) ≤ (j : Int) := by omega
      go_wp2_with fail
      refine HPn.out.mono ?_
      rintro en w2 ⟨rfl, vp', hp2⟩
      have HP2 : Hid (PS w.heap.size w1.heap.size w.heap.size (w1.heap.size + 1) w c n (.slice Ao n co) vp' (pfold c vs (rs.take (j + 1))).1 (pfold c vs (rs.take (j + 1))).2 w2) := by rw [HU.out]; exact hp2
      clear hp2 HPn HP HU q0 q1
      go_wp2_with fail
      go_roundg (k - (j + 1))
      case measure => have := HJ.out; omega
      case rel => exact ⟨j + 1, vp', by have := HJ.out; omega, by go_num, HP2⟩
    · obtain rfl : j = k := by have := HJ.out; omega
      obtain ⟨s1, s2, s3⟩ := HSp.out j (by have := HML.out; omega)
      generalize (pfold c vs (rs.take j)).1 = us at *
      generalize (pfold c vs (rs.take j)).2 = qs at *
      obtain ⟨Ap0, cp0, rfl⟩ := own_slice HP.out.op
      clear s1 s2
      go_upto_region 10 with fail
      have HP3 : Hid (PS w.heap.size w1.heap.size w.heap.size (w1.heap.size + 1) w c n (.slice Ao n co) (.slice Ap0 qs.length cp0) us qs wr.drew) := HP.out.call (below_drewN (Below.refl _ _) 1)
      clear HP
      generalize hbo : w1.heap.size + 1 = bp at *
      refine wp_region_held_drew (S := fun w' => Nb w' w1.heap.size (.cells #[.slice Ao n co] 22 (0, 0)) ∧ Nb w' bp (.cells #[.slice Ap0 qs.length cp0] 29 (0, 0))) (by kernel_rfl) ⟨HP3.out.ho, HP3.out.hp⟩ (fun hS => ?_)
      generalize hwn : wr.drew = w4 at *
      clear hwn
      refine wpAnyH_take (i := 0) (v := ?v0_1) rfl (by kernel_rfl) (by kernel_rfl) (by kernel_rfl) (fun _ _ _ h => h) (Or.inl ⟨by rfl, ?y0_1⟩) hS ?z0_1
      case y0_1 => intro w hSw; have e := (hSw.1).cell (i := 0); simp only [List.getElem?_toArray, List.getElem?_cons_zero] at e; clear hSw; go_simp; (try with_reducible rfl)
      try simp only [Act.put, List.getElem_toArray, List.getElem_cons_succ, List.getElem_cons_zero, List.setIfInBounds_toArray, List.set_cons_zero, List.set_cons_succ]
      refine wpAnyH_take (i := 1) (v := ?v1_2) rfl (by kernel_rfl) (by kernel_rfl) (by kernel_rfl) (fun _ _ _ h => h) (Or.inl ⟨by rfl, ?y1_2⟩) hS ?z1_2
      case y1_2 => intro w hSw; have e := (hSw.2).cell (i := 0); simp only [List.getElem?_toArray, List.getElem?_cons_zero] at e; clear hSw; go_simp; (try with_reducible rfl)
      try simp only [Act.put, List.getElem_toArray, List.getElem_cons_succ, List.getElem_cons_zero, List.setIfInBounds_toArray, List.set_cons_zero, List.set_cons_succ]
      refine wpAnyH_take (i := 3) (v := ?v3_3) rfl (by kernel_rfl) (by kernel_rfl) (by kernel_rfl) (fun _ _ _ h => h) (Or.inl ⟨by rfl, ?y3_3⟩) hS ?z3_3
      case y3_3 => intro w hSw; (try dsimp only at hSw); go_simp; (try with_reducible rfl)
      try simp only [Act.put, List.getElem_toArray, List.getElem_cons_succ, List.getElem_cons_zero, List.setIfInBounds_toArray, List.set_cons_zero, List.set_cons_succ]
      refine wpAnyH_ready (rs := [2]) (by kernel_rfl) (by simp) (AllReadyH.cons rfl (fun K hK => ?_) AllReadyH.nil)
      go_simp
      refine (positive_any HP3.out.op (by omega)).mono ?_
      rintro en w5 ⟨Af, mf, cf, rfl, hrf, hgf⟩
      have HRf := Lib.hid hrf
      have hS5 : Nb w5 w1.heap.size (.cells #[.slice Ao n co] 22 (0, 0)) ∧ Nb w5 bp (.cells #[.slice Ap0 qs.length cp0] 29 (0, 0)) :=
        ⟨(hgf.block _ HP3.out.ho.lt (fun e => own_nb_ne HP3.out.op HP3.out.ho (by decide) e.symm)).trans HP3.out.ho, (hgf.block _ HP3.out.hp.lt (fun e => own_nb_ne HP3.out.op HP3.out.hp (by decide) e.symm)).trans HP3.out.hp⟩
      have HRo := Lib.hid (HP3.out.oo.kept hgf (own_ne HP3.out.oo HP3.out.op (by decide)))
      have HBf := Lib.hid (HP3.out.hb.grown hgf (by have := HP3.out.ho.lt; have := HP3.out.l; omega) (fun k hk => (HP3.out.op.lt k hk).1))
      clear hrf hgf HP3
      refine hK.out _ _ hS5 (fun hS => ?_)
      clear hK K
      try simp only [Act.put, List.getElem_toArray, List.getElem_cons_succ, List.getElem_cons_zero, List.setIfInBounds_toArray, List.set_cons_zero, List.set_cons_succ]
      refine wpAnyH_take (i := 4) (v := ?v4_4) rfl (by kernel_rfl) (by kernel_rfl) (by kernel_rfl) (fun _ _ _ h => h) (Or.inl ⟨by rfl, ?y4_4⟩) hS ?z4_4
      case y4_4 => intro w hSw; (try dsimp only at hSw); go_simp; (try with_reducible rfl)
      try simp only [Act.put, List.getElem_toArray, List.getElem_cons_succ, List.getElem_cons_zero, List.setIfInBounds_toArray, List.set_cons_zero, List.set_cons_succ]
      refine wpAnyH_take (i := 5) (v := ?v5_5) rfl (by kernel_rfl) (by kernel_rfl) (by kernel_rfl) (fun _ _ _ h => h) (Or.inl ⟨by rfl, ?y5_5⟩) hS ?z5_5
      case y5_5 => intro w hSw; (try dsimp only at hSw); go_simp; (try with_reducible rfl)
      try simp only [Act.put, List.getElem_toArray, List.getElem_cons_succ, List.getElem_cons_zero, List.setIfInBounds_toArray, List.set_cons_zero, List.set_cons_succ]
      refine wpAnyH_take (i := 6) (v := ?v6_6) rfl (by kernel_rfl) (by kernel_rfl) (by kernel_rfl) (fun _ _ _ h => h) (Or.inl ⟨by rfl, ?y6_6⟩) hS ?z6_6
      case y6_6 => intro w hSw; (try dsimp only at hSw); go_simp; (try with_reducible rfl)
      try simp only [Act.put, List.getElem_toArray, List.getElem_cons_succ, List.getElem_cons_zero, List.setIfInBounds_toArray, List.set_cons_zero, List.set_cons_succ]
      refine wpAnyH_done (by kernel_rfl) ?_ _
      go_wp2_with fail
      refine bodyPost_ret (results_tmp3 rfl _ _ _) rfl ?_
      exact ⟨Ao, co, Af, mf, cf, rfl, HRo.out, HRf.out, HBf.out⟩

end Go.Proofs.Ytbafgipegekbcaa
