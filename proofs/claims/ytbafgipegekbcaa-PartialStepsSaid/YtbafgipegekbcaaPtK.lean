/- Chapter 17: the walk of PartialConserves. -/
import Derived.Test.YtbafgipegekbcaaPtJ
import Derived.Test.YtbafgipegekbcaaEqw
namespace Go.Proofs.Ytbafgipegekbcaa
open Go.RowKit Go.Maps
set_option linter.unusedSimpArgs false
set_option linter.unusedVariables false
set_option maxRecDepth 20000


/-- '!=' at two validators, in a region that draws its order. -/
theorem calm_nev {ops : Array Oper} {C : World → Prop} {Q : Act → Prop} {a : Act} {o : Oper} {rest : List Oper} (x y : Val) (b : Bool) (p q : Operand) (ty : TypeId) (hw : Region.wanted o (yielded ops a.tmps) = true) (ho : o.op = .binOp .neq 35 p q ty)
    (hx : a.eval p = .agg x.list.toArray) (hy : a.eval q = .agg y.list.toArray) (hb : decide (x = y) = b) (h : wpQuiet Try.prog ops C Q rest (a.put o.dst (.bool (!b)))) : wpQuiet Try.prog ops C Q (o :: rest) a := by
  refine calm_val hw (fun w hC => ?_) h
  have E := eq_val x y w
  rw [hb] at E
  have hg : Try.prog.eqGuardType Try.prog.depth 35 = false := by kernel_rfl
  unfold execOp
  simp only [ho, hx, hy]
  generalize x.list.toArray = xs at *
  generalize y.list.toArray = ys at *
  simp [run_eqGuard_agg w _ _ _ _ _ _ hg, run_neq_struct, E, Result.andThen, Sem.run_bind]

set_option maxHeartbeats 4000000 in
theorem partialConserves_bad (A : Option Addr) (n cap : Nat) (Aq : Option Addr) (m capq : Nat) (c : Cfg) (w : World) (hn : n ≤ 9223372036854775807) (hm : m ≤ 9223372036854775807) (nok : ¬ c.Ok ∨ 60 < n ∨ 60 < m) : Calls Try.prog 4 #[.slice A n cap, .slice Aq m capq, .agg c.list.toArray] w (Tr w) := by
  have HF := Lib.hid (CfgAt.new w c)
  have HB0 := Lib.hid ((Below.refl w.heap.size w).alloc (Nat.le_refl _) (.cells c.list.toArray 26))
  have HCk := Lib.hid (fun w => check_any c w)
  have HAl := Lib.hid alive_any
  have HNk := Lib.hid nok
  clear nok
  go_enter Try.func4, Try.ntmps4
  go_wp2_with (first | ((with_reducible show wpList _ _ _ (_ :: _) _ _); refine wpList_load_cf (.tmp 5) rfl rfl rfl HF.out ?_) | fail)
  refine (HCk.out _).mono ?_
  rintro en w1 ⟨⟨r, rfl, hr⟩, hb⟩
  have HB := Lib.hid (HB0.out.trans (hb.mono HB0.out.size))
  clear HF hb HB0
  by_cases hr0 : r = 0
  · have h60 : 60 < n ∨ 60 < m := by
      rcases HNk.out with h | h
      · exact absurd (hr.1 hr0) h
      · exact h
    subst hr0
    clear hr HNk
    by_cases h6 : 60 < n
    · have hd : decide ((60 : Int) < (n : Int)) = true := by rw [decide_eq_true_iff]; omega
      clear h60
      go_wp2_with fail
      refine (HAl.out _).mono ?_
      rintro en w2 ⟨rfl, hb⟩
      have HB2 := Lib.hid (HB.out.trans (hb.mono HB.out.size))
      clear hb HB
      go_wp2
      go_ret
      exact ⟨rfl, HB2.out⟩
    · have h7 : 60 < m := by omega
      have hd : decide ((60 : Int) < (n : Int)) = false := by rw [decide_eq_false_iff_not]; omega
      have hd2 : decide ((60 : Int) < (m : Int)) = true := by rw [decide_eq_true_iff]; omega
      clear h60
      go_wp2_with fail
      refine (HAl.out _).mono ?_
      rintro en w2 ⟨rfl, hb⟩
      have HB2 := Lib.hid (HB.out.trans (hb.mono HB.out.size))
      clear hb HB
      go_wp2
      go_ret
      exact ⟨rfl, HB2.out⟩
  · have hr1 : (r != 0) = true := by simpa using hr0
    clear hr hr0 HNk
    go_wp2_with fail
    refine (HAl.out _).mono ?_
    rintro en w2 ⟨rfl, hb⟩
    have HB2 := Lib.hid (HB.out.trans (hb.mono HB.out.size))
    clear hb HB
    go_wp2
    go_ret
    exact ⟨rfl, HB2.out⟩

set_option maxHeartbeats 16000000 in
theorem partialConserves_ok (vs : List Val) (A : Option Addr) (n cap : Nat) (rs : List Req) (Aq : Option Addr) (m capq : Nat) (c : Cfg) (w : World) (hR : Row Val.list w A n vs) (hQ : Row Req.list w Aq m rs) (hn : n ≤ 60) (hm6 : m ≤ 60) (hok : AllOk vs) (hrs : ∀ r ∈ rs, r.Ok) (ok : c.Ok) : Calls Try.prog 4 #[.slice A n cap, .slice Aq m capq, .agg c.list.toArray] w (Tr w) := by
  have hmb : 0 ≤ c.minBal := by have := ok.h6; omega
  have hpt : 0 ≤ c.parts ∧ c.parts ≤ 4096 := by have := ok.h17; have := ok.h16; omega
  have HF := Lib.hid (Pcv.new c hR hQ)
  have HCk := Lib.hid (fun w => check_any c w)
  have HAl := Lib.hid alive_any
  have HOk := Lib.hid ok
  have HRq := Lib.hid (fun (w' : World) (hw : Pcv w.heap.size w c vs A n rs Aq m w') => requests_any Aq m capq rs w' hw.2.2.2 hm6)
  have HSt := Lib.hid (fun (Ar : Option Addr) (cr : Nat) (w' : World) (hw : Row Val.list w' A n vs) (hw2 : Row Req.list w' Ar m rs) (hc : m ≤ cr) => step_any vs A n cap rs Ar m cr c w' hw hn hok hmb hw2 hm6 hc hpt hrs)
  have HFr : Hid (Fair c vs (pfold c vs (rs.take (min m c.parts.toNat))).1 ((pfold c vs (rs.take (min m c.parts.toNat))).2.filter keepB)) := by
    have h := pfold_fair (c := c) (vs := vs) (rs := rs) hok hmb hpt.1 hrs
    rwa [← hQ.1] at h
  have HLn := Lib.hid hR.1
  have HVo := Lib.hid hok
  unfold StepP at HSt
  generalize (pfold c vs (rs.take (min m c.parts.toNat))).1 = us at *
  generalize ((pfold c vs (rs.take (min m c.parts.toNat))).2.filter keepB) = qs at *
  generalize hkn : min m c.parts.toNat = kn at *
  clear ok hR hQ hok hrs hkn
  have hd1 : decide ((60 : Int) < (n : Int)) = false := by rw [decide_eq_false_iff_not]; omega
  have hd2 : decide ((60 : Int) < (m : Int)) = false := by rw [decide_eq_false_iff_not]; omega
  go_enter Try.func4, Try.ntmps4
  go_wp2_with (first | ((with_reducible show wpList _ _ _ (_ :: _) _ _); refine wpList_load_cf (.tmp 5) rfl rfl rfl HF.out.1 ?_) | fail)
  refine (HCk.out _).mono ?_
  rintro en w1 ⟨⟨r, rfl, hr⟩, hb⟩
  have HF1 := Lib.hid (HF.out.call hb)
  obtain rfl : r = 0 := hr.2 HOk.out
  clear HF hb hr HCk
  go_upto_region 3 with fail
  have HF2 : Hid (Pcv w.heap.size w c vs A n rs Aq m w1.drew) := HF1.out.call (below_drewN (Below.refl _ _) 1)
  clear HF1
  refine wp_region_held_drew (S := Pcv w.heap.size w c vs A n rs Aq m) (by kernel_rfl) HF2.out (fun hS => ?_)
  generalize hwn : w1.drew = w2 at *
  clear hwn
  refine wpAnyH_take (i := 0) (v := ?v0_10) rfl (by kernel_rfl) (by kernel_rfl) (by kernel_rfl) (fun _ _ _ h => h) (Or.inl ⟨by rfl, ?y0_10⟩) hS ?z0_10
  case y0_10 => intro w hSw; (try dsimp only at hSw); go_simp; (try with_reducible rfl)
  try simp only [Act.put, List.getElem_toArray, List.getElem_cons_succ, List.getElem_cons_zero, List.setIfInBounds_toArray, List.set_cons_zero, List.set_cons_succ]
  refine wpAnyH_take (i := 1) (v := ?v1_11) rfl (by kernel_rfl) (by kernel_rfl) (by kernel_rfl) (fun _ _ _ h => h) (Or.inl ⟨by rfl, ?y1_11⟩) hS ?z1_11
  case y1_11 => intro w hSw; (try dsimp only at hSw); go_simp; (try with_reducible rfl)
  try simp only [Act.put, List.getElem_toArray, List.getElem_cons_succ, List.getElem_cons_zero, List.setIfInBounds_toArray, List.set_cons_zero, List.set_cons_succ]
  refine wpAnyH_take (i := 3) rfl (by kernel_rfl) (by kernel_rfl) (by kernel_rfl) (fun _ _ _ h => h) (yieldsIf_load_nb rfl 26 (.tmp 5) rfl w.heap.size 26 c.list.toArray rfl (fun w h => h.1) _ Try.underlying26 rfl (by show _ = some 20; kernel_rfl)) hS ?_
  try simp only [Act.put, List.getElem_toArray, List.getElem_cons_succ, List.getElem_cons_zero, List.setIfInBounds_toArray, List.set_cons_zero, List.set_cons_succ]
  refine wpAnyH_ready (rs := [2]) (by kernel_rfl) (by simp) (AllReadyH.cons rfl (fun K hK => ?_) AllReadyH.nil)
  go_simp
  refine (HRq.out _ HF2.out).mono ?_
  rintro en w3 ⟨Ar, cr, rfl, hrr, hcr, hb⟩
  have HF3 := Lib.hid (HF2.out.call hb)
  have HRr := Lib.hid hrr
  have HCr := Lib.hid hcr
  clear hrr hb hcr HF2 HRq
  refine hK.out _ _ HF3.out (fun hS => ?_)
  clear hK K
  try simp only [Act.put, List.getElem_toArray, List.getElem_cons_succ, List.getElem_cons_zero, List.setIfInBounds_toArray, List.set_cons_zero, List.set_cons_succ]
  refine wpAnyH_ready (rs := [4]) (by kernel_rfl) (by simp) (AllReadyH.cons rfl (fun K hK => ?_) AllReadyH.nil)
  go_simp
  refine (HSt.out Ar cr _ HF3.out.2.2.1 HRr.out HCr.out).mono ?_
  rintro en w4 ⟨Ag, cg, Ap, mp, cp, rfl, hru, hrp, hb⟩
  have HF4 := Lib.hid (HF3.out.call hb)
  have HP : Hid (Pst w.heap.size w c vs A n us Ag qs Ap mp w4) := ⟨HF4.out.1, HF4.out.2.1, HF4.out.2.2.1, row_of_own Val.len (by decide) hru, hrp⟩
  clear hru hrp hb HF3 HRr HCr HSt
  refine hK.out _ _ HF4.out (fun hS => ?_)
  clear hK K
  try simp only [Act.put, List.getElem_toArray, List.getElem_cons_succ, List.getElem_cons_zero, List.setIfInBounds_toArray, List.set_cons_zero, List.set_cons_succ]
  refine wpAnyH_take (i := 5) (v := ?v5_12) rfl (by kernel_rfl) (by kernel_rfl) (by kernel_rfl) (fun _ _ _ h => h) (Or.inl ⟨by rfl, ?y5_12⟩) hS ?z5_12
  case y5_12 => intro w hSw; (try dsimp only at hSw); go_simp; (try with_reducible rfl)
  try simp only [Act.put, List.getElem_toArray, List.getElem_cons_succ, List.getElem_cons_zero, List.setIfInBounds_toArray, List.set_cons_zero, List.set_cons_succ]
  refine wpAnyH_take (i := 6) (v := ?v6_13) rfl (by kernel_rfl) (by kernel_rfl) (by kernel_rfl) (fun _ _ _ h => h) (Or.inl ⟨by rfl, ?y6_13⟩) hS ?z6_13
  case y6_13 => intro w hSw; (try dsimp only at hSw); go_simp; (try with_reducible rfl)
  try simp only [Act.put, List.getElem_toArray, List.getElem_cons_succ, List.getElem_cons_zero, List.setIfInBounds_toArray, List.set_cons_zero, List.set_cons_succ]
  refine wpAnyH_take (i := 7) (v := ?v7_14) rfl (by kernel_rfl) (by kernel_rfl) (by kernel_rfl) (fun _ _ _ h => h) (Or.inl ⟨by rfl, ?y7_14⟩) hS ?z7_14
  case y7_14 => intro w hSw; (try dsimp only at hSw); go_simp; (try with_reducible rfl)
  try simp only [Act.put, List.getElem_toArray, List.getElem_cons_succ, List.getElem_cons_zero, List.setIfInBounds_toArray, List.set_cons_zero, List.set_cons_succ]
  refine wpAnyH_take (i := 8) (v := ?v8_15) rfl (by kernel_rfl) (by kernel_rfl) (by kernel_rfl) (fun _ _ _ h => h) (Or.inl ⟨by rfl, ?y8_15⟩) hS ?z8_15
  case y8_15 => intro w hSw; (try dsimp only at hSw); go_simp; (try with_reducible rfl)
  try simp only [Act.put, List.getElem_toArray, List.getElem_cons_succ, List.getElem_cons_zero, List.setIfInBounds_toArray, List.set_cons_zero, List.set_cons_succ]
  refine wpAnyH_take (i := 9) (v := ?v9_16) rfl (by kernel_rfl) (by kernel_rfl) (by kernel_rfl) (fun _ _ _ h => h) (Or.inl ⟨by rfl, ?y9_16⟩) hS ?z9_16
  case y9_16 => intro w hSw; (try dsimp only at hSw); go_simp; (try with_reducible rfl)
  try simp only [Act.put, List.getElem_toArray, List.getElem_cons_succ, List.getElem_cons_zero, List.setIfInBounds_toArray, List.set_cons_zero, List.set_cons_succ]
  refine wpAnyH_take (i := 10) (v := ?v10_17) rfl (by kernel_rfl) (by kernel_rfl) (by kernel_rfl) (fun _ _ _ h => h) (Or.inl ⟨by rfl, ?y10_17⟩) hS ?z10_17
  case y10_17 => intro w hSw; (try dsimp only at hSw); go_simp; (try with_reducible rfl)
  try simp only [Act.put, List.getElem_toArray, List.getElem_cons_succ, List.getElem_cons_zero, List.setIfInBounds_toArray, List.set_cons_zero, List.set_cons_succ]
  refine wpAnyH_take (i := 11) (v := ?v11_18) rfl (by kernel_rfl) (by kernel_rfl) (by kernel_rfl) (fun _ _ _ h => h) (Or.inl ⟨by rfl, ?y11_18⟩) hS ?z11_18
  case y11_18 => intro w hSw; (try dsimp only at hSw); go_simp; (try with_reducible rfl)
  try simp only [Act.put, List.getElem_toArray, List.getElem_cons_succ, List.getElem_cons_zero, List.setIfInBounds_toArray, List.set_cons_zero, List.set_cons_succ]
  refine wpAnyH_done (by kernel_rfl) ?_ _
  clear hS HF4
  go_wp2_with fail
  go_loopg [46] mp (fun kk i wr => ∃ (j : Nat), j + kk = mp ∧ i = .int .i64 j ∧ Hid (Pst w.heap.size w c vs A n us Ag qs Ap mp wr))
  case atStart => exact ⟨0, by omega, rfl, HP⟩
  case round =>
    obtain ⟨i, hik, rfl, HI⟩ := hrel
    clear HP
    have HJ := Lib.hid hik
    clear hik
    by_cases hlt : i < mp
    · have hiq : i < qs.length := by have := HI.out.rp.1; omega
      obtain ⟨gp, op, rfl, hgp, hrp⟩ := row_some HI.out.rp (by omega)
      have rq := Row.elem Pay.len hrp i hiq
      obtain ⟨⟨x, h0, hx, hfl, ha0, hst0⟩, hne⟩ := HFr.out.pay qs[i] (List.getElem_mem hiq)
      obtain ⟨⟨s, amt, fl⟩, hq⟩ : ∃ q, qs[i] = q := ⟨_, rfl⟩
      rw [hq] at rq h0 hx
      simp only at h0 hx
      obtain ⟨s, rfl⟩ := Int.eq_ofNat_of_zero_le h0
      simp only [Int.toNat_natCast] at hx
      have hsv : s < vs.length := (List.getElem?_eq_some_iff.1 hx).1
      have hsn : s < n := by have := HLn.out; omega
      have hba : Below wr.heap.size wr (wr.alloc (.cells #[.int .i64 (s : Int), .int .u64 amt, .bool fl] 37)) := (Below.refl _ _).alloc (Nat.le_refl _) _
      have q0 : wr.cell? ⟨gp, op + i * 3, none⟩ = some (.int .i64 (s : Int)) := rq 0 _ rfl
      have q1 : wr.cell? ⟨gp, op + i * 3 + 1, none⟩ = some (.int .u64 amt) := rq 1 _ rfl
      have q2 : wr.cell? ⟨gp, op + i * 3 + 2, none⟩ = some (.bool fl) := rq 2 _ rfl
      have HP1 := Lib.hid (HI.out.call hba)
      have hj1 : (i : Int) < (mp : Int) := by omega
      have hmp : (mp : Int) ≤ 4096 := by have := HI.out.rp.1; have := HFr.out.num; omega
      have hj0 : (0 : Int) ≤ (i : Int) := by omega
      have hd3 : decide ((s : Int) < 0) = false := by rw [decide_eq_false_iff_not]; omega
      have hd4 : decide ((n : Int) ≤ (s : Int)) = false := by rw [decide_eq_false_iff_not]; omega
      clear rq hst0 h0 hx ha0 hfl hq hne hba hrp hgp HI hsv hiq
      go_wp2_with fail
      go_roundg (mp - (i + 1))
      case measure => have := HJ.out; omega
      case rel => exact ⟨i + 1, by have := HJ.out; omega, by go_num, HP1⟩
    · obtain rfl : i = mp := by have := HJ.out; omega
      clear HJ hlt
      go_wp2_with fail
      go_loopg [63] n (fun kk i' wr => ∃ (j : Nat), j + kk = n ∧ i' = .int .i64 j ∧ Hid (Pst w.heap.size w c vs A n us Ag qs Ap i wr))
      case atStart => exact ⟨0, by omega, rfl, HI⟩
      case round =>
        obtain ⟨j, hjk, rfl, HJ0⟩ := hrel
        clear HI
        have HJ := Lib.hid hjk
        clear hjk
        by_cases hlt : j < n
        · have hjv : j < vs.length := by have := HLn.out; omega
          have hju : j < us.length := by have := HFr.out.len; omega
          obtain ⟨ga, oa, rfl, hga, hra⟩ := row_some HJ0.out.ra (by omega)
          obtain ⟨gb, ob, rfl, hgb, hrb⟩ := row_some HJ0.out.rg (by omega)
          have rx := Row.elem Val.len hra j hjv
          have ru := Row.elem Val.len hrb j hju
          have hel := HFr.out.el j vs[j] us[j] (List.getElem?_eq_getElem hjv) (List.getElem?_eq_getElem hju)
          have hxo := HVo.out _ (List.getElem_mem hjv)
          have huo := HFr.out.ok _ (List.getElem_mem hju)
          generalize vs[j] = x at *
          generalize us[j] = u at *
          clear hra hrb
          have HEl := Lib.hid hel
          have HXo := Lib.hid hxo
          have HUo := Lib.hid huo
          have hj1 : (j : Int) < (n : Int) := by omega
          have hj0 : (0 : Int) ≤ (j : Int) := by omega
          have RX := Lib.hid rx
          have RU := Lib.hid ru
          have HGA := Lib.hid hga
          clear rx ru hgb hga hel hxo huo
          go_wp2_with (first | ((with_reducible show wpList _ _ _ (⟨some 67, _, _, _, _, _⟩ :: _) _ _); refine halted ?_) | fail)
          unfold Halted
          refine wpList_load_at u (.tmp 66) rfl rfl rfl RU.out ?_
          go_wp2_with (first | ((with_reducible show wpList _ _ _ (⟨none, _, _, _, _, _⟩ :: _) _ _); refine halted ?_) | fail)
          unfold Halted
          refine wpList_store_last 35 (.tmp 13) (.tmp 67) u.list.toArray rfl rfl rfl rfl u.info rfl u.oneA ?_
          have HV : Hid (ValAt (wr.alloc (.cells u.list.toArray 35)) wr.heap.size { u with bal := u.bal + sumTo j (qs.take 0) }) := by
            have h0 : u.bal + sumTo j (qs.take 0) = u.bal := by simp [sumTo]
            rw [Hid, h0]
            exact ValAt.new wr u
          have HBw : Hid (Below wr.heap.size wr (wr.alloc (.cells u.list.toArray 35))) := (Below.refl _ _).alloc (Nat.le_refl _) _
          obtain ⟨nb, hnb⟩ : ∃ nb, wr.heap.size = nb := ⟨_, rfl⟩
          rw [hnb] at HV HBw ⊢
          have HNB := Lib.hid hnb
          clear RU
          generalize hwn : World.alloc wr _ = w5 at *
          clear hwn
          clear hnb
          generalize hwo : wr = wo at *
          clear hwo
          go_wp2_with fail
          go_loopg [70] i (fun kk i' wr => ∃ (k : Nat), k + kk = i ∧ i' = .int .i64 k ∧ Hid (ValAt wr nb { u with bal := u.bal + sumTo j (qs.take k) }) ∧ Hid (Below nb wo wr))
          case atStart => exact ⟨0, by omega, rfl, HV, HBw⟩
          case round =>
            obtain ⟨k, hkk, rfl, HVc, HBc⟩ := hrel
            clear HV HBw
            have HK := Lib.hid hkk
            clear hkk
            by_cases hkt : k < i
            · have hkq : k < qs.length := by have := HJ0.out.rp.1; omega
              obtain ⟨gp, op, rfl, hgp, hrp⟩ := row_some HJ0.out.rp (by omega)
              have rq := Row.elem Pay.len hrp k hkq
              have hnn : ∀ p ∈ qs, 0 ≤ p.amt := fun p hp => by obtain ⟨⟨_, _, _, _, h, _⟩, _⟩ := HFr.out.pay p hp; exact h
              have ha0 := hnn _ (List.getElem_mem hkq)
              have hm1 := sumTo_mono (i := j) hnn k
              have hm2 := sumTo_mono (i := j) hnn (k + 1)
              have hsu := sumTo_succ j qs k hkq
              obtain ⟨⟨s, amt, fl⟩, hq⟩ : ∃ q, qs[k] = q := ⟨_, rfl⟩
              rw [hq] at rq ha0 hsu
              simp only at ha0 hsu
              have hgp' : gp < nb := by rw [← HNB.out]; exact hgp
              have hwb : ∀ (o : Nat) (v : Value), wo.cell? ⟨gp, o, none⟩ = some v → wr.cell? ⟨gp, o, none⟩ = some v := fun o v h => (HBc.out.cell (p := ⟨gp, o, none⟩) hgp').trans h
              have q0 := hwb _ _ (rq 0 _ rfl)
              have q1 := hwb _ _ (rq 1 _ rfl)
              have q2 := hwb _ _ (rq 2 _ rfl)
              simp only [Nat.add_zero] at q0
              have hnl : nb < wr.heap.size := HVc.out.lt
              have HB1 : Hid (Below nb wo (wr.alloc (.cells #[.int .i64 s, .int .u64 amt, .bool fl] 37))) := HBc.out.alloc (Nat.le_of_lt hnl) _
              have HV1 := Lib.hid (HVc.out.alloc (.cells #[.int .i64 s, .int .u64 amt, .bool fl] 37))
              have hk1 : (k : Int) < (i : Int) := by omega
              have hk0 : (0 : Int) ≤ (k : Int) := by omega
              have hi9 : (i : Int) ≤ 4096 := by have := HJ0.out.rp.1; have := HFr.out.num; omega
              have hE4 := HEl.out.2.2.2
              have hXo := HXo.out.2
              have hUo := HUo.out.1
              have hXo1 := HXo.out.1
              obtain ⟨t, ht⟩ : ∃ t, u.bal + sumTo j (qs.take k) = t := ⟨_, rfl⟩
              by_cases hsj : s = (j : Int)
              · subst hsj
                rw [if_pos rfl] at hsu
                have ht2 : u.bal + sumTo j (qs.take (k + 1)) = t + amt := by omega
                have ht0 : 0 ≤ t := by omega
                have ht3 : t + amt ≤ 18446744073709551615 := by have := hXo; omega
                rw [ht] at HV1
                have HT2 := Lib.hid ht2
                have e0 := HV1.out.c0
                have ef := Nb.frozen (i := 0) HV1.out
                simp only at e0
                clear rq hq hm1 hm2 hsu hnn hrp hgp hgp' hwb hkq hE4 hXo hUo hXo1 ht2
                have HVk := HVc.out
                rw [ht] at HVk
                have HVs : ValAt (wr.setCell ⟨nb, 0, none⟩ (.int .u64 (t + amt))) nb { u with bal := t + amt } := by
                  rw [Nb.set HVk]; exact Nb.same HVk
                have HBs : Below nb wo (wr.setCell ⟨nb, 0, none⟩ (.int .u64 (t + amt))) := by
                  rw [Nb.set HVk]; exact below_setRow HBc.out (Nat.le_refl _) _
                have HV2 : Hid (ValAt ((wr.setCell ⟨nb, 0, none⟩ (.int .u64 (t + amt))).alloc (.cells #[.int .i64 (j : Int), .int .u64 amt, .bool fl] 37)) nb { u with bal := u.bal + sumTo j (qs.take (k + 1)) }) := by
                  rw [Hid, HT2.out]; exact HVs.alloc _
                have HB2 : Hid (Below nb wo ((wr.setCell ⟨nb, 0, none⟩ (.int .u64 (t + amt))).alloc (.cells #[.int .i64 (j : Int), .int .u64 amt, .bool fl] 37))) :=
                  HBs.alloc (Nat.le_of_lt HVs.lt) _
                clear HVk HVs HBs HVc HBc ht
                go_wp2_with fail
                go_roundg (i - (k + 1))
                case measure => have := HK.out; omega
                case rel => exact ⟨k + 1, by have := HK.out; omega, by go_num, HV2, HB2⟩
              · rw [if_neg hsj] at hsu
                have HV2 : Hid (ValAt (wr.alloc (.cells #[.int .i64 s, .int .u64 amt, .bool fl] 37)) nb { u with bal := u.bal + sumTo j (qs.take (k + 1)) }) := by
                  rw [Hid, hsu, Int.add_zero]; exact HV1.out
                have hd5 : (s == (j : Int)) = false := by simpa using hsj
                clear rq hq hm1 hm2 hsu hnn hrp hgp hgp' hwb HVc HBc HV1 hkq hE4 hXo hUo hXo1 ht hsj ha0
                go_wp2_with fail
                go_roundg (i - (k + 1))
                case measure => have := HK.out; omega
                case rel => exact ⟨k + 1, by have := HK.out; omega, by go_num, HV2, HB1⟩
            · obtain rfl : k = i := by have := HK.out; omega
              obtain ⟨f1, f2, f3, f4⟩ := HEl.out
              have HVx : Hid (ValAt wr nb x) := by
                have h := HVc.out
                have hl := HJ0.out.rp.1
                rw [List.take_of_length_le (by omega), f4] at h
                have e : ({ u with bal := x.bal } : Val) = x := by rw [f1]
                rw [e] at h
                exact h
              have hga' : ga < wo.heap.size := HGA.out
              have RX1 := Lib.hid (range_call RX.out HGA.out (by rw [HNB.out]; exact HBc.out))
              have HPc := Lib.hid (HJ0.out.call (by rw [HNB.out]; exact HBc.out))
              clear f1 f2 f3 f4 HVc RX HEl hga'
              go_upto_region 21 with fail
              refine calm_region (fun w' => ValAt w' nb x ∧ Pst w.heap.size w c vs (some ⟨ga, oa, none⟩) n us (some ⟨gb, ob, none⟩) qs Ap k w' ∧ w'.rangeAt ga (oa + j * 7) x.list) (by kernel_rfl) (by kernel_rfl) ⟨HVx.out, HPc.out.call (below_drewN (Below.refl _ _) 1), RX1.out⟩ ?_
              clear HVx HPc RX1 HBc HJ0
              refine calm_load 35 (.tmp 13) (by rfl) rfl rfl (fun w hw => hw.1) _ Try.underlying35 rfl x.info ?_
              try simp only [Act.put, List.getElem_toArray, List.getElem_cons_succ, List.getElem_cons_zero, List.setIfInBounds_toArray, List.set_cons_zero, List.set_cons_succ]
              refine calm_val (v := ?v1) (by rfl) ?y1 ?z1
              case y1 => intro w hw; go_simp; (try with_reducible rfl)
              try simp only [Act.put, List.getElem_toArray, List.getElem_cons_succ, List.getElem_cons_zero, List.setIfInBounds_toArray, List.set_cons_zero, List.set_cons_succ]
              refine calm_val (v := ?v2) (by rfl) ?y2 ?z2
              case y2 => intro w hw; go_simp; (try with_reducible rfl)
              try simp only [Act.put, List.getElem_toArray, List.getElem_cons_succ, List.getElem_cons_zero, List.setIfInBounds_toArray, List.set_cons_zero, List.set_cons_succ]
              refine calm_val (v := ?v3) (by rfl) ?y3 ?z3
              case y3 => intro w hw; go_simp; (try with_reducible rfl)
              try simp only [Act.put, List.getElem_toArray, List.getElem_cons_succ, List.getElem_cons_zero, List.setIfInBounds_toArray, List.set_cons_zero, List.set_cons_succ]
              refine calm_part 35 (.tmp 88) (by rfl) rfl rfl (fun w hw => hw.2.2) _ Try.underlying35 rfl x.infoL ?_
              try simp only [Act.put, List.getElem_toArray, List.getElem_cons_succ, List.getElem_cons_zero, List.setIfInBounds_toArray, List.set_cons_zero, List.set_cons_succ]
              refine calm_nev x x true (.tmp 85) (.tmp 89) _ (by rfl) rfl rfl rfl (by simp) ?_
              try simp only [Act.put, List.getElem_toArray, List.getElem_cons_succ, List.getElem_cons_zero, List.setIfInBounds_toArray, List.set_cons_zero, List.set_cons_succ]
              refine wpQuiet_nil ?_
              intro w6 hC6
              have HI2 := Lib.hid hC6.2.1
              clear hC6
              go_wp2_with fail
              go_roundg (n - (j + 1))
              case measure => have := HJ.out; omega
              case rel => exact ⟨j + 1, by have := HJ.out; omega, by go_num, HI2⟩
        · obtain rfl : j = n := by have := HJ.out; omega
          clear HJ hlt
          go_wp2_with fail
          refine (HAl.out _).mono ?_
          rintro en w5 ⟨rfl, hb⟩
          have HP5 := Lib.hid (HJ0.out.call hb)
          clear HJ0 hb
          go_wp2_with fail
          go_ret
          exact ⟨rfl, HP5.out.hb⟩

theorem partialConserves_walk (vs : List Val) (A : Option Addr) (n cap : Nat) (rs : List Req) (Aq : Option Addr) (m capq : Nat) (c : Cfg) (w : World) (hR : Row Val.list w A n vs) (hn : n ≤ 9223372036854775807) (hok : AllOk vs) (hQ : Row Req.list w Aq m rs) (hm : m ≤ 9223372036854775807) (hrs : ∀ r ∈ rs, r.Ok) :
    Calls Try.prog 4 #[.slice A n cap, .slice Aq m capq, .agg c.list.toArray] w fun en w' => en = .returned (.bool true) ∧ Below w.heap.size w w' := by
  by_cases h : ¬ c.Ok ∨ 60 < n ∨ 60 < m
  · exact partialConserves_bad A n cap Aq m capq c w hn hm h
  · exact partialConserves_ok vs A n cap rs Aq m capq c w hR hQ (by omega) (by omega) hok hrs (by
      by_cases ok : c.Ok
      · exact ok
      · exact absurd (.inl ok) h)

end Go.Proofs.Ytbafgipegekbcaa
