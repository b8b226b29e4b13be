/- Chapter 17: the walk of PartialMinimum. -/
import Derived.Test.YtbafgipegekbcaaPtI
namespace Go.Proofs.Ytbafgipegekbcaa
open Go.RowKit Go.Maps
set_option linter.unusedSimpArgs false
set_option linter.unusedVariables false
set_option maxRecDepth 20000

def Tr (w : World) (e : Ending) (w' : World) : Prop := e = .returned (.bool true) ∧ Below w.heap.size w w'
/-- A configuration boxed at p; a row of validators and requests that came in. -/
def Pcv (p : Nat) (w0 : World) (c : Cfg) (vs : List Val) (A : Option Addr) (n : Nat) (rs : List Req) (Aq : Option Addr) (m : Nat) (w : World) : Prop :=
  CfgAt w p c ∧ Below p w0 w ∧ Row Val.list w A n vs ∧ Row Req.list w Aq m rs
theorem Pcv.call {p : Nat} {w0 w w' : World} {c : Cfg} {vs : List Val} {A : Option Addr} {n : Nat} {rs : List Req} {Aq : Option Addr} {m : Nat} (h : Pcv p w0 c vs A n rs Aq m w) (hb : Below w.heap.size w w') : Pcv p w0 c vs A n rs Aq m w' :=
  ⟨h.1.call hb, h.2.1.trans (hb.mono (Nat.le_of_lt h.1.lt)), h.2.2.1.call hb, h.2.2.2.call hb⟩
theorem Pcv.new {w : World} {vs : List Val} {A : Option Addr} {n : Nat} {rs : List Req} {Aq : Option Addr} {m : Nat} (c : Cfg) (h : Row Val.list w A n vs) (hq : Row Req.list w Aq m rs) : Pcv w.heap.size w c vs A n rs Aq m (w.alloc (.cells c.list.toArray 26)) :=
  ⟨CfgAt.new w c, (Below.refl _ _).alloc (Nat.le_refl _) _, h.alloc _, hq.alloc _⟩

/-- .. with the row and the payments that came out. -/
structure Pst (p : Nat) (w0 : World) (c : Cfg) (vs : List Val) (A : Option Addr) (n : Nat) (us : List Val) (Ag : Option Addr) (qs : List Pay) (Ap : Option Addr) (mp : Nat) (w : World) : Prop where
  hc : CfgAt w p c
  hb : Below p w0 w
  ra : Row Val.list w A n vs
  rg : Row Val.list w Ag n us
  rp : Row Pay.list w Ap mp qs
theorem Pst.call {p : Nat} {w0 w w' : World} {c : Cfg} {vs : List Val} {A : Option Addr} {n : Nat} {us : List Val} {Ag : Option Addr} {qs : List Pay} {Ap : Option Addr} {mp : Nat} (h : Pst p w0 c vs A n us Ag qs Ap mp w) (hb : Below w.heap.size w w') : Pst p w0 c vs A n us Ag qs Ap mp w' :=
  ⟨h.hc.call hb, h.hb.trans (hb.mono (Nat.le_of_lt h.hc.lt)), h.ra.call hb, h.rg.call hb, h.rp.call hb⟩
theorem row_some {α : Type} {f : α → List Value} {w : World} {A : Option Addr} {n : Nat} {xs : List α} (h : Row f w A n xs) (h0 : 0 < n) : ∃ b o, A = some ⟨b, o, none⟩ ∧ b < w.heap.size ∧ w.rangeAt b o (flat f xs) := by
  obtain ⟨h1, h2 | h2⟩ := h
  · subst h2; simp at h1; omega
  · exact h2
theorem val_c0 {w : World} {g o : Nat} {x : Val} (h : w.rangeAt g o x.list) : w.cell? ⟨g, o, none⟩ = some (.int .u64 x.bal) := h 0 _ rfl
theorem val_c1 {w : World} {g o : Nat} {x : Val} (h : w.rangeAt g o x.list) : w.cell? ⟨g, o + 1, none⟩ = some (.int .i64 x.st) := h 1 _ rfl
theorem val_c2 {w : World} {g o : Nat} {x : Val} (h : w.rangeAt g o x.list) : w.cell? ⟨g, o + 2, none⟩ = some (.bool x.sl) := h 2 _ rfl

set_option maxHeartbeats 4000000 in
theorem partialMinimum_bad (A : Option Addr) (n cap : Nat) (Aq : Option Addr) (m capq : Nat) (c : Cfg) (w : World) (hn : n ≤ 9223372036854775807) (hm : m ≤ 9223372036854775807) (nok : ¬ c.Ok ∨ 60 < n ∨ 60 < m) : Calls Try.prog 3 #[.slice A n cap, .slice Aq m capq, .agg c.list.toArray] w (Tr w) := by
  have HF := Lib.hid (CfgAt.new w c)
  have HB0 := Lib.hid ((Below.refl w.heap.size w).alloc (Nat.le_refl _) (.cells c.list.toArray 26))
  have HCk := Lib.hid (fun w => check_any c w)
  have HAl := Lib.hid alive_any
  have HNk := Lib.hid nok
  clear nok
  go_enter Try.func3, Try.ntmps3
  go_wp2_with (first | ((with_reducible show wpList _ _ _ (_ :: _) _ _); refine wpList_load_cf (.tmp 5) rfl rfl rfl HF.out ?_) | fail)
  refine (HCk.out _).mono ?_
  rintro en w1 ⟨⟨r, rfl, hr⟩, hb⟩
  have HB := Lib.hid (HB0.out.trans (hb.mono HB0.out.size))
  clear HF hb HB0
  by_cases hr0 : r = 0
  · have h60 : 60 < n ∨ 60 < m := by
      rcases HNk.out with h | h
      · exact absurd (hr.1 hr0) h
      · exact h
    subst hr0
    clear hr HNk
    by_cases h6 : 60 < n
    · have hd : decide ((60 : Int) < (n : Int)) = true := by rw [decide_eq_true_iff]; omega
      clear h60
      go_wp2_with fail
      refine (HAl.out _).mono ?_
      rintro en w2 ⟨rfl, hb⟩
      have HB2 := Lib.hid (HB.out.trans (hb.mono HB.out.size))
      clear hb HB
      go_wp2
      go_ret
      exact ⟨rfl, HB2.out⟩
    · have h7 : 60 < m := by omega
      have hd : decide ((60 : Int) < (n : Int)) = false := by rw [decide_eq_false_iff_not]; omega
      have hd2 : decide ((60 : Int) < (m : Int)) = true := by rw [decide_eq_true_iff]; omega
      clear h60
      go_wp2_with fail
      refine (HAl.out _).mono ?_
      rintro en w2 ⟨rfl, hb⟩
      have HB2 := Lib.hid (HB.out.trans (hb.mono HB.out.size))
      clear hb HB
      go_wp2
      go_ret
      exact ⟨rfl, HB2.out⟩
  · have hr1 : (r != 0) = true := by simpa using hr0
    clear hr hr0 HNk
    go_wp2_with fail
    refine (HAl.out _).mono ?_
    rintro en w2 ⟨rfl, hb⟩
    have HB2 := Lib.hid (HB.out.trans (hb.mono HB.out.size))
    clear hb HB
    go_wp2
    go_ret
    exact ⟨rfl, HB2.out⟩

set_option maxHeartbeats 16000000 in
theorem partialMinimum_ok (vs : List Val) (A : Option Addr) (n cap : Nat) (rs : List Req) (Aq : Option Addr) (m capq : Nat) (c : Cfg) (w : World) (hR : Row Val.list w A n vs) (hQ : Row Req.list w Aq m rs) (hn : n ≤ 60) (hm6 : m ≤ 60) (hok : AllOk vs) (hrs : ∀ r ∈ rs, r.Ok) (ok : c.Ok) : Calls Try.prog 3 #[.slice A n cap, .slice Aq m capq, .agg c.list.toArray] w (Tr w) := by
  have hmb : 0 ≤ c.minBal := by have := ok.h6; omega
  have hpt : 0 ≤ c.parts ∧ c.parts ≤ 4096 := by have := ok.h17; have := ok.h16; omega
  have HF := Lib.hid (Pcv.new c hR hQ)
  have HCk := Lib.hid (fun w => check_any c w)
  have HAl := Lib.hid alive_any
  have HOk := Lib.hid ok
  have HRq := Lib.hid (fun (w' : World) (hw : Pcv w.heap.size w c vs A n rs Aq m w') => requests_any Aq m capq rs w' hw.2.2.2 hm6)
  have HSt := Lib.hid (fun (Ar : Option Addr) (cr : Nat) (w' : World) (hw : Row Val.list w' A n vs) (hw2 : Row Req.list w' Ar m rs) (hc : m ≤ cr) => step_any vs A n cap rs Ar m cr c w' hw hn hok hmb hw2 hm6 hc hpt hrs)
  have HFr : Hid (Fair c vs (pfold c vs (rs.take (min m c.parts.toNat))).1 ((pfold c vs (rs.take (min m c.parts.toNat))).2.filter keepB)) := by
    have h := pfold_fair (c := c) (vs := vs) (rs := rs) hok hmb hpt.1 hrs
    rwa [← hQ.1] at h
  have HLn := Lib.hid hR.1
  have HVo := Lib.hid hok
  unfold StepP at HSt
  generalize (pfold c vs (rs.take (min m c.parts.toNat))).1 = us at *
  generalize ((pfold c vs (rs.take (min m c.parts.toNat))).2.filter keepB) = qs at *
  generalize hkn : min m c.parts.toNat = kn at *
  clear ok hR hQ hok hrs hkn
  have hd1 : decide ((60 : Int) < (n : Int)) = false := by rw [decide_eq_false_iff_not]; omega
  have hd2 : decide ((60 : Int) < (m : Int)) = false := by rw [decide_eq_false_iff_not]; omega
  go_enter Try.func3, Try.ntmps3
  go_wp2_with (first | ((with_reducible show wpList _ _ _ (_ :: _) _ _); refine wpList_load_cf (.tmp 5) rfl rfl rfl HF.out.1 ?_) | fail)
  refine (HCk.out _).mono ?_
  rintro en w1 ⟨⟨r, rfl, hr⟩, hb⟩
  have HF1 := Lib.hid (HF.out.call hb)
  obtain rfl : r = 0 := hr.2 HOk.out
  clear HF hb hr HCk
  go_upto_region 3 with fail
  have HF2 : Hid (Pcv w.heap.size w c vs A n rs Aq m w1.drew) := HF1.out.call (below_drewN (Below.refl _ _) 1)
  clear HF1
  refine wp_region_held_drew (S := Pcv w.heap.size w c vs A n rs Aq m) (by kernel_rfl) HF2.out (fun hS => ?_)
  generalize hwn : w1.drew = w2 at *
  clear hwn
  refine wpAnyH_take (i := 0) (v := ?v0_1) rfl (by kernel_rfl) (by kernel_rfl) (by kernel_rfl) (fun _ _ _ h => h) (Or.inl ⟨by rfl, ?y0_1⟩) hS ?z0_1
  case y0_1 => intro w hSw; (try dsimp only at hSw); go_simp; (try with_reducible rfl)
  try simp only [Act.put, List.getElem_toArray, List.getElem_cons_succ, List.getElem_cons_zero, List.setIfInBounds_toArray, List.set_cons_zero, List.set_cons_succ]
  refine wpAnyH_take (i := 1) (v := ?v1_2) rfl (by kernel_rfl) (by kernel_rfl) (by kernel_rfl) (fun _ _ _ h => h) (Or.inl ⟨by rfl, ?y1_2⟩) hS ?z1_2
  case y1_2 => intro w hSw; (try dsimp only at hSw); go_simp; (try with_reducible rfl)
  try simp only [Act.put, List.getElem_toArray, List.getElem_cons_succ, List.getElem_cons_zero, List.setIfInBounds_toArray, List.set_cons_zero, List.set_cons_succ]
  refine wpAnyH_take (i := 3) rfl (by kernel_rfl) (by kernel_rfl) (by kernel_rfl) (fun _ _ _ h => h) (yieldsIf_load_nb rfl 26 (.tmp 5) rfl w.heap.size 26 c.list.toArray rfl (fun w h => h.1) _ Try.underlying26 rfl (by show _ = some 20; kernel_rfl)) hS ?_
  try simp only [Act.put, List.getElem_toArray, List.getElem_cons_succ, List.getElem_cons_zero, List.setIfInBounds_toArray, List.set_cons_zero, List.set_cons_succ]
  refine wpAnyH_ready (rs := [2]) (by kernel_rfl) (by simp) (AllReadyH.cons rfl (fun K hK => ?_) AllReadyH.nil)
  go_simp
  refine (HRq.out _ HF2.out).mono ?_
  rintro en w3 ⟨Ar, cr, rfl, hrr, hcr, hb⟩
  have HF3 := Lib.hid (HF2.out.call hb)
  have HRr := Lib.hid hrr
  have HCr := Lib.hid hcr
  clear hrr hb hcr HF2 HRq
  refine hK.out _ _ HF3.out (fun hS => ?_)
  clear hK K
  try simp only [Act.put, List.getElem_toArray, List.getElem_cons_succ, List.getElem_cons_zero, List.setIfInBounds_toArray, List.set_cons_zero, List.set_cons_succ]
  refine wpAnyH_ready (rs := [4]) (by kernel_rfl) (by simp) (AllReadyH.cons rfl (fun K hK => ?_) AllReadyH.nil)
  go_simp
  refine (HSt.out Ar cr _ HF3.out.2.2.1 HRr.out HCr.out).mono ?_
  rintro en w4 ⟨Ag, cg, Ap, mp, cp, rfl, hru, hrp, hb⟩
  have HF4 := Lib.hid (HF3.out.call hb)
  have HP : Hid (Pst w.heap.size w c vs A n us Ag qs Ap mp w4) := ⟨HF4.out.1, HF4.out.2.1, HF4.out.2.2.1, row_of_own Val.len (by decide) hru, hrp⟩
  clear hru hrp hb HF3 HRr HCr HSt
  refine hK.out _ _ HF4.out (fun hS => ?_)
  clear hK K
  try simp only [Act.put, List.getElem_toArray, List.getElem_cons_succ, List.getElem_cons_zero, List.setIfInBounds_toArray, List.set_cons_zero, List.set_cons_succ]
  refine wpAnyH_take (i := 5) (v := ?v5_3) rfl (by kernel_rfl) (by kernel_rfl) (by kernel_rfl) (fun _ _ _ h => h) (Or.inl ⟨by rfl, ?y5_3⟩) hS ?z5_3
  case y5_3 => intro w hSw; (try dsimp only at hSw); go_simp; (try with_reducible rfl)
  try simp only [Act.put, List.getElem_toArray, List.getElem_cons_succ, List.getElem_cons_zero, List.setIfInBounds_toArray, List.set_cons_zero, List.set_cons_succ]
  refine wpAnyH_take (i := 6) (v := ?v6_4) rfl (by kernel_rfl) (by kernel_rfl) (by kernel_rfl) (fun _ _ _ h => h) (Or.inl ⟨by rfl, ?y6_4⟩) hS ?z6_4
  case y6_4 => intro w hSw; (try dsimp only at hSw); go_simp; (try with_reducible rfl)
  try simp only [Act.put, List.getElem_toArray, List.getElem_cons_succ, List.getElem_cons_zero, List.setIfInBounds_toArray, List.set_cons_zero, List.set_cons_succ]
  refine wpAnyH_take (i := 7) (v := ?v7_5) rfl (by kernel_rfl) (by kernel_rfl) (by kernel_rfl) (fun _ _ _ h => h) (Or.inl ⟨by rfl, ?y7_5⟩) hS ?z7_5
  case y7_5 => intro w hSw; (try dsimp only at hSw); go_simp; (try with_reducible rfl)
  try simp only [Act.put, List.getElem_toArray, List.getElem_cons_succ, List.getElem_cons_zero, List.setIfInBounds_toArray, List.set_cons_zero, List.set_cons_succ]
  refine wpAnyH_take (i := 8) (v := ?v8_6) rfl (by kernel_rfl) (by kernel_rfl) (by kernel_rfl) (fun _ _ _ h => h) (Or.inl ⟨by rfl, ?y8_6⟩) hS ?z8_6
  case y8_6 => intro w hSw; (try dsimp only at hSw); go_simp; (try with_reducible rfl)
  try simp only [Act.put, List.getElem_toArray, List.getElem_cons_succ, List.getElem_cons_zero, List.setIfInBounds_toArray, List.set_cons_zero, List.set_cons_succ]
  refine wpAnyH_take (i := 9) (v := ?v9_7) rfl (by kernel_rfl) (by kernel_rfl) (by kernel_rfl) (fun _ _ _ h => h) (Or.inl ⟨by rfl, ?y9_7⟩) hS ?z9_7
  case y9_7 => intro w hSw; (try dsimp only at hSw); go_simp; (try with_reducible rfl)
  try simp only [Act.put, List.getElem_toArray, List.getElem_cons_succ, List.getElem_cons_zero, List.setIfInBounds_toArray, List.set_cons_zero, List.set_cons_succ]
  refine wpAnyH_take (i := 10) (v := ?v10_8) rfl (by kernel_rfl) (by kernel_rfl) (by kernel_rfl) (fun _ _ _ h => h) (Or.inl ⟨by rfl, ?y10_8⟩) hS ?z10_8
  case y10_8 => intro w hSw; (try dsimp only at hSw); go_simp; (try with_reducible rfl)
  try simp only [Act.put, List.getElem_toArray, List.getElem_cons_succ, List.getElem_cons_zero, List.setIfInBounds_toArray, List.set_cons_zero, List.set_cons_succ]
  refine wpAnyH_take (i := 11) (v := ?v11_9) rfl (by kernel_rfl) (by kernel_rfl) (by kernel_rfl) (fun _ _ _ h => h) (Or.inl ⟨by rfl, ?y11_9⟩) hS ?z11_9
  case y11_9 => intro w hSw; (try dsimp only at hSw); go_simp; (try with_reducible rfl)
  try simp only [Act.put, List.getElem_toArray, List.getElem_cons_succ, List.getElem_cons_zero, List.setIfInBounds_toArray, List.set_cons_zero, List.set_cons_succ]
  refine wpAnyH_done (by kernel_rfl) ?_ _
  clear hS HF4
  have hcn : CfgAt w4 w.heap.size c := HP.out.hc
  go_wp2_with fail
  go_loopg [44] n (fun kk i wr => ∃ (j : Nat), j + kk = n ∧ i = .int .i64 j ∧ Hid (Pst w.heap.size w c vs A n us Ag qs Ap mp wr))
  case atStart => exact ⟨0, by omega, rfl, HP⟩
  case round =>
    obtain ⟨j, hjk, rfl, HI⟩ := hrel
    clear HP
    have HJ := Lib.hid hjk
    clear hjk
    by_cases hlt : j < n
    · have hjv : j < vs.length := by have := HLn.out; omega
      have hju : j < us.length := by have := HFr.out.len; omega
      obtain ⟨ga, oa, rfl, hga, hra⟩ := row_some HI.out.ra (by omega)
      obtain ⟨gb, ob, rfl, hgb, hrb⟩ := row_some HI.out.rg (by omega)
      have rx := Row.elem Val.len hra j hjv
      have ru := Row.elem Val.len hrb j hju
      obtain ⟨f1, f2, f3, f4⟩ := HFr.out.el j vs[j] us[j] (List.getElem?_eq_getElem hjv) (List.getElem?_eq_getElem hju)
      generalize vs[j] = x at *
      generalize us[j] = u at *
      clear f1 f4 hra hrb
      obtain ⟨mn, hmn⟩ : ∃ mn, (if c.minBal < x.bal then c.minBal else x.bal) = mn := ⟨_, rfl⟩
      have hd3 : decide (u.bal < mn) = false := by rw [decide_eq_false_iff_not, ← hmn]; split <;> omega
      have hd4 : decide (x.bal < u.bal) = false := by rw [decide_eq_false_iff_not]; omega
      have hj1 : (j : Int) < (n : Int) := by omega
      have hj0 : (0 : Int) ≤ (j : Int) := by omega
      have RX := Lib.hid rx
      have RU := Lib.hid ru
      have HGA := Lib.hid hga
      clear rx ru f2 f3 hgb hga
      go_wp2_with (first | ((with_reducible show wpList _ _ _ (⟨some 48, _, _, _, _, _⟩ :: _) _ _); refine halted ?_) | fail)
      unfold Halted
      refine wpList_load_at u (.tmp 47) rfl rfl rfl RU.out ?_
      go_wp2_with (first | ((with_reducible show wpList _ _ _ (⟨none, _, _, _, _, _⟩ :: _) _ _); refine halted ?_) | fail)
      unfold Halted
      refine wpList_store_last 35 (.tmp 11) (.tmp 48) u.list.toArray rfl rfl rfl rfl u.info rfl u.oneA ?_
      have HV := Lib.hid (ValAt.new wr u)
      have hba : Below wr.heap.size wr (wr.alloc (.cells u.list.toArray 35)) := (Below.refl _ _).alloc (Nat.le_refl _) _
      have HI1 := Lib.hid (HI.out.call hba)
      have RX1 := Lib.hid (range_call RX.out HGA.out hba)
      generalize hnb : wr.heap.size = nb at *
      clear hba HI RX RU HGA
      generalize hwn : World.alloc wr _ = w5 at *
      clear hwn
      go_upto_region 9 with fail
      refine calm_region (fun w' => ValAt w' nb u ∧ Pst w.heap.size w c vs (some ⟨ga, oa, none⟩) n us (some ⟨gb, ob, none⟩) qs Ap mp w' ∧ w'.rangeAt ga (oa + j * 7) x.list) (by kernel_rfl) (by kernel_rfl) ⟨HV.out, HI1.out.call (below_drewN (Below.refl _ _) 1), RX1.out⟩ ?_
      clear HI1 HV RX1
      refine calm_val (v := ?v0) (by rfl) ?y0 ?z0
      case y0 => intro w hw; go_simp; (try with_reducible rfl)
      try simp only [Act.put, List.getElem_toArray, List.getElem_cons_succ, List.getElem_cons_zero, List.setIfInBounds_toArray, List.set_cons_zero, List.set_cons_succ]
      refine calm_val (v := ?v1) (by rfl) ?y1 ?z1
      case y1 => intro w hw; have e := hw.1.c0; go_simp; (try with_reducible rfl)
      try simp only [Act.put, List.getElem_toArray, List.getElem_cons_succ, List.getElem_cons_zero, List.setIfInBounds_toArray, List.set_cons_zero, List.set_cons_succ]
      refine calm_val (v := ?v2) (by rfl) ?y2 ?z2
      case y2 => intro w hw; go_simp; (try with_reducible rfl)
      try simp only [Act.put, List.getElem_toArray, List.getElem_cons_succ, List.getElem_cons_zero, List.setIfInBounds_toArray, List.set_cons_zero, List.set_cons_succ]
      refine calm_val (v := ?v3) (by rfl) ?y3 ?z3
      case y3 => intro w hw; go_simp; (try with_reducible rfl)
      try simp only [Act.put, List.getElem_toArray, List.getElem_cons_succ, List.getElem_cons_zero, List.setIfInBounds_toArray, List.set_cons_zero, List.set_cons_succ]
      refine calm_val (v := ?v4) (by rfl) ?y4 ?z4
      case y4 => intro w hw; go_simp; (try with_reducible rfl)
      try simp only [Act.put, List.getElem_toArray, List.getElem_cons_succ, List.getElem_cons_zero, List.setIfInBounds_toArray, List.set_cons_zero, List.set_cons_succ]
      refine calm_val (v := ?v5) (by rfl) ?y5 ?z5
      case y5 => intro w hw; go_simp; (try with_reducible rfl)
      try simp only [Act.put, List.getElem_toArray, List.getElem_cons_succ, List.getElem_cons_zero, List.setIfInBounds_toArray, List.set_cons_zero, List.set_cons_succ]
      refine calm_val (v := ?v6) (by rfl) ?y6 ?z6
      case y6 => intro w hw; have e := val_c0 hw.2.2; go_simp; (try with_reducible rfl)
      try simp only [Act.put, List.getElem_toArray, List.getElem_cons_succ, List.getElem_cons_zero, List.setIfInBounds_toArray, List.set_cons_zero, List.set_cons_succ]
      refine calm_val (v := ?v7) (by rfl) ?y7 ?z7
      case y7 => intro w hw; go_simp; (try with_reducible rfl)
      try simp only [Act.put, List.getElem_toArray, List.getElem_cons_succ, List.getElem_cons_zero, List.setIfInBounds_toArray, List.set_cons_zero, List.set_cons_succ]
      refine calm_val (v := ?v8) (by rfl) ?y8 ?z8
      case y8 => intro w hw; have e := hw.2.1.hc.c5; go_simp; (try with_reducible rfl)
      try simp only [Act.put, List.getElem_toArray, List.getElem_cons_succ, List.getElem_cons_zero, List.setIfInBounds_toArray, List.set_cons_zero, List.set_cons_succ]
      refine calm_val (v := ?v9) (by rfl) ?y9 ?z9
      case y9 => intro w hw; go_simp; (try with_reducible rfl)
      try simp only [Act.put, List.getElem_toArray, List.getElem_cons_succ, List.getElem_cons_zero, List.setIfInBounds_toArray, List.set_cons_zero, List.set_cons_succ]
      refine calm_val (v := ?v10) (by rfl) ?y10 ?z10
      case y10 => intro w hw; go_simp; (try with_reducible rfl)
      try simp only [Act.put, List.getElem_toArray, List.getElem_cons_succ, List.getElem_cons_zero, List.setIfInBounds_toArray, List.set_cons_zero, List.set_cons_succ]
      refine calm_val (v := ?v11) (by rfl) ?y11 ?z11
      case y11 => intro w hw; go_simp; (try with_reducible rfl)
      try simp only [Act.put, List.getElem_toArray, List.getElem_cons_succ, List.getElem_cons_zero, List.setIfInBounds_toArray, List.set_cons_zero, List.set_cons_succ]
      refine calm_val (v := ?v12) (by rfl) ?y12 ?z12
      case y12 => intro w hw; go_simp; (try with_reducible rfl)
      try simp only [Act.put, List.getElem_toArray, List.getElem_cons_succ, List.getElem_cons_zero, List.setIfInBounds_toArray, List.set_cons_zero, List.set_cons_succ]
      refine calm_val (v := ?v13) (by rfl) ?y13 ?z13
      case y13 => intro w hw; have e := hw.1.c0; go_simp; (try with_reducible rfl)
      try simp only [Act.put, List.getElem_toArray, List.getElem_cons_succ, List.getElem_cons_zero, List.setIfInBounds_toArray, List.set_cons_zero, List.set_cons_succ]
      refine calm_val (v := ?v14) (by rfl) ?y14 ?z14
      case y14 => intro w hw; go_simp; (try with_reducible rfl)
      try simp only [Act.put, List.getElem_toArray, List.getElem_cons_succ, List.getElem_cons_zero, List.setIfInBounds_toArray, List.set_cons_zero, List.set_cons_succ]
      refine calm_val (v := ?v15) (by rfl) ?y15 ?z15
      case y15 => intro w hw; go_simp; (try with_reducible rfl)
      try simp only [Act.put, List.getElem_toArray, List.getElem_cons_succ, List.getElem_cons_zero, List.setIfInBounds_toArray, List.set_cons_zero, List.set_cons_succ]
      refine calm_val (v := ?v16) (by rfl) ?y16 ?z16
      case y16 => intro w hw; go_simp; (try with_reducible rfl)
      try simp only [Act.put, List.getElem_toArray, List.getElem_cons_succ, List.getElem_cons_zero, List.setIfInBounds_toArray, List.set_cons_zero, List.set_cons_succ]
      refine calm_val (v := ?v17) (by rfl) ?y17 ?z17
      case y17 => intro w hw; go_simp; (try with_reducible rfl)
      try simp only [Act.put, List.getElem_toArray, List.getElem_cons_succ, List.getElem_cons_zero, List.setIfInBounds_toArray, List.set_cons_zero, List.set_cons_succ]
      refine calm_val (v := ?v18) (by rfl) ?y18 ?z18
      case y18 => intro w hw; have e := val_c0 hw.2.2; go_simp; (try with_reducible rfl)
      try simp only [Act.put, List.getElem_toArray, List.getElem_cons_succ, List.getElem_cons_zero, List.setIfInBounds_toArray, List.set_cons_zero, List.set_cons_succ]
      refine calm_val (v := ?v19) (by rfl) ?y19 ?z19
      case y19 => intro w hw; go_simp; (try with_reducible rfl)
      try simp only [Act.put, List.getElem_toArray, List.getElem_cons_succ, List.getElem_cons_zero, List.setIfInBounds_toArray, List.set_cons_zero, List.set_cons_succ]
      refine calm_val (v := ?v20) (by rfl) ?y20 ?z20
      case y20 => intro w hw; go_simp; (try with_reducible rfl)
      try simp only [Act.put, List.getElem_toArray, List.getElem_cons_succ, List.getElem_cons_zero, List.setIfInBounds_toArray, List.set_cons_zero, List.set_cons_succ]
      refine wpQuiet_nil ?_
      intro w6 hC6
      have HI2 := Lib.hid hC6.2.1
      clear hC6
      go_wp2_with fail
      go_roundg (n - (j + 1))
      case measure => have := HJ.out; omega
      case rel => exact ⟨j + 1, by have := HJ.out; omega, by go_num, HI2⟩
    · obtain rfl : j = n := by have := HJ.out; omega
      clear HJ hlt
      go_wp2_with fail
      clear hcn
      go_loopg [73] mp (fun kk i wr => ∃ (i' : Nat), i' + kk = mp ∧ i = .int .i64 i' ∧ Hid (Pst w.heap.size w c vs A j us Ag qs Ap mp wr))
      case atStart => exact ⟨0, by omega, rfl, HI⟩
      case round =>
        obtain ⟨i, hik, rfl, HP⟩ := hrel
        clear HI
        have HJ := Lib.hid hik
        clear hik
        by_cases hlt : i < mp
        · have hiq : i < qs.length := by have := HP.out.rp.1; omega
          obtain ⟨gp, op, rfl, hgp, hrp⟩ := row_some HP.out.rp (by omega)
          have rq := Row.elem Pay.len hrp i hiq
          obtain ⟨⟨x, h0, hx, hfl, ha0, hst0⟩, hne⟩ := HFr.out.pay qs[i] (List.getElem_mem hiq)
          obtain ⟨hst, hsl⟩ := hst0 hne
          obtain ⟨⟨s, amt, fl⟩, hq⟩ : ∃ q, qs[i] = q := ⟨_, rfl⟩
          rw [hq] at rq h0 hx hfl hne
          simp only at h0 hx hfl hne
          subst hfl
          obtain ⟨s, rfl⟩ := Int.eq_ofNat_of_zero_le h0
          simp only [Int.toNat_natCast] at hx
          have hsv : s < vs.length := (List.getElem?_eq_some_iff.1 hx).1
          have hsn : s < j := by have := HLn.out; omega
          have hex : vs[s] = x := by rw [List.getElem?_eq_getElem hsv] at hx; exact Option.some.inj hx
          obtain ⟨ga, oa, rfl, hga, hra⟩ := row_some HP.out.ra (by omega)
          have rx := Row.elem Val.len hra s hsv
          rw [hex] at rx
          have hba : Below wr.heap.size wr (wr.alloc (.cells #[.int .i64 (s : Int), .int .u64 amt, .bool false] 37)) := (Below.refl _ _).alloc (Nat.le_refl _) _
          have rx1 := range_call rx hga hba
          have q0 : wr.cell? ⟨gp, op + i * 3, none⟩ = some (.int .i64 (s : Int)) := rq 0 _ rfl
          have q1 : wr.cell? ⟨gp, op + i * 3 + 1, none⟩ = some (.int .u64 amt) := rq 1 _ rfl
          have q2 : wr.cell? ⟨gp, op + i * 3 + 2, none⟩ = some (.bool false) := rq 2 _ rfl
          have x1 := val_c1 rx1
          have x2 := val_c2 rx1
          rw [hst] at x1
          rw [hsl] at x2
          have HP1 := Lib.hid (HP.out.call hba)
          have hj1 : (i : Int) < (mp : Int) := by omega
          have hmp : (mp : Int) ≤ 4096 := by have := HP.out.rp.1; have := HFr.out.num; omega
          have hj0 : (0 : Int) ≤ (i : Int) := by omega
          have hs1 : (s : Int) < (j : Int) := by omega
          have hs0 : (0 : Int) ≤ (s : Int) := by omega
          have hd3 : decide ((s : Int) < 0) = false := by rw [decide_eq_false_iff_not]; omega
          have hd4 : decide ((j : Int) ≤ (s : Int)) = false := by rw [decide_eq_false_iff_not]; omega
          have hd5 : (amt == 0) = false := by simpa using hne
          clear hst0 rq h0 hx ha0 hst hsl hq hne hex rx rx1 hba hra hga hrp hgp HP hsv hiq
          go_wp2_with fail
          go_roundg (mp - (i + 1))
          case measure => have := HJ.out; omega
          case rel => exact ⟨i + 1, by have := HJ.out; omega, by go_num, HP1⟩
        · obtain rfl : i = mp := by have := HJ.out; omega
          have hnum : (i : Int) ≤ c.parts := by have h1 := HP.out.rp.1; have := HFr.out.num; omega
          clear HJ hlt
          go_wp2_with fail
          refine (HAl.out _).mono ?_
          rintro en w5 ⟨rfl, hb⟩
          have HP5 := Lib.hid (HP.out.call hb)
          have e16 := HP5.out.hc.c16
          have hd6 : decide ((i : Int) ≤ c.parts) = true := by rw [decide_eq_true_iff]; exact hnum
          clear HP hb
          go_wp2_with fail
          go_ret
          exact ⟨rfl, HP5.out.hb⟩

theorem partialMinimum_walk (vs : List Val) (A : Option Addr) (n cap : Nat) (rs : List Req) (Aq : Option Addr) (m capq : Nat) (c : Cfg) (w : World) (hR : Row Val.list w A n vs) (hn : n ≤ 9223372036854775807) (hok : AllOk vs) (hQ : Row Req.list w Aq m rs) (hm : m ≤ 9223372036854775807) (hrs : ∀ r ∈ rs, r.Ok) :
    Calls Try.prog 3 #[.slice A n cap, .slice Aq m capq, .agg c.list.toArray] w fun en w' => en = .returned (.bool true) ∧ Below w.heap.size w w' := by
  by_cases h : ¬ c.Ok ∨ 60 < n ∨ 60 < m
  · exact partialMinimum_bad A n cap Aq m capq c w hn hm h
  · exact partialMinimum_ok vs A n cap rs Aq m capq c w hR hQ (by omega) (by omega) hok hrs (by
      by_cases ok : c.Ok
      · exact ok
      · exact absurd (.inl ok) h)

end Go.Proofs.Ytbafgipegekbcaa
