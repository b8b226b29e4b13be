/- Chapter 17: the walk of PartialSteps. -/
import Derived.Test.YtbafgipegekbcaaPtM
namespace Go.Proofs.Ytbafgipegekbcaa
open Go.RowKit Go.Maps
set_option linter.unusedSimpArgs false
set_option linter.unusedVariables false
set_option maxRecDepth 20000


/-- A configuration boxed at p; a row of validators, its copy and requests that came in. -/
def Scv (p : Nat) (w0 : World) (c : Cfg) (vs : List Val) (A Aw : Option Addr) (n : Nat) (rs : List Req) (Aq : Option Addr) (m : Nat) (w : World) : Prop :=
  CfgAt w p c ∧ Below p w0 w ∧ Row Val.list w A n vs ∧ Row Val.list w Aw n vs ∧ Row Req.list w Aq m rs
theorem Scv.call {p : Nat} {w0 w w' : World} {c : Cfg} {vs : List Val} {A Aw : Option Addr} {n : Nat} {rs : List Req} {Aq : Option Addr} {m : Nat} (h : Scv p w0 c vs A Aw n rs Aq m w) (hb : Below w.heap.size w w') : Scv p w0 c vs A Aw n rs Aq m w' :=
  ⟨h.1.call hb, h.2.1.trans (hb.mono (Nat.le_of_lt h.1.lt)), h.2.2.1.call hb, h.2.2.2.1.call hb, h.2.2.2.2.call hb⟩

/-- A row of validators whose balances are written. -/
def GotOk (g n : Nat) (w : World) : Prop :=
  ∃ cur, Nb w g (.cells cur 35 (0, 0)) ∧ ∀ i, i < n → ∃ z, cur[i * 7]? = some (.int .u64 z)
theorem GotOk.set {g n : Nat} {w : World} (h : GotOk g n w) (j : Nat) (z : Int) : GotOk g n (w.setCell ⟨g, j * 7, none⟩ (.int .u64 z)) := by
  obtain ⟨cur, h1, h2⟩ := h
  refine ⟨cur.setIfInBounds (j * 7) (.int .u64 z), ?_, fun i hi => ?_⟩
  · rw [Nb.set h1]; exact Nb.same h1
  · obtain ⟨y, hy⟩ := h2 i hi
    by_cases hij : j * 7 = i * 7
    · have hs : i * 7 < cur.size := (Array.getElem?_eq_some_iff.1 hy).1
      exact ⟨z, by rw [hij, Array.getElem?_setIfInBounds_self_of_lt hs]⟩
    · exact ⟨y, by rw [Array.getElem?_setIfInBounds_ne hij]; exact hy⟩
theorem GotOk.below {g n B : Nat} {w w' : World} (h : GotOk g n w') (hb : Below B w w') (hB : B ≤ g) (j : Nat) (v : Value) : Below B w (w'.setCell ⟨g, j * 7, none⟩ v) := by
  obtain ⟨cur, h1, h2⟩ := h
  rw [Nb.set h1]; exact below_setRow hb hB _
theorem GotOk.at_ {g n : Nat} {w : World} (h : GotOk g n w) (j : Nat) (hj : j < n) : (∃ z, w.cell? ⟨g, j * 7, none⟩ = some (.int .u64 z)) ∧ w.frozen? ⟨g, j * 7, none⟩ = false := by
  obtain ⟨cur, h1, h2⟩ := h
  obtain ⟨z, hz⟩ := h2 j hj
  exact ⟨⟨z, by rw [h1.cell]; exact hz⟩, Nb.frozen h1⟩
theorem GotOk.of {B n : Nat} {w : World} {g c : Nat} {us : List Val} (h : w.ownsRow B 35 7 (.slice (some ⟨g, 0, none⟩) n c) n (flat Val.list us)) (hl : us.length = n) : GotOk g n w := by
  have hr := row_of_own Val.len (by decide) h
  rcases h.2 with ⟨h2, _⟩ | ⟨g', cap, cur, hv, _, hh, _⟩
  · simp at h2
  · simp only [Value.slice.injEq, Option.some.injEq, Addr.mk.injEq, true_and, and_true] at hv
    obtain ⟨rfl, rfl⟩ := hv
    refine ⟨cur, hh, fun i hi => ?_⟩
    obtain ⟨b, o, hbo, _, hrr⟩ := row_some hr (by omega)
    simp only [Option.some.injEq, Addr.mk.injEq] at hbo
    obtain ⟨rfl, rfl, -⟩ := hbo
    have hc := Row.elem Val.len hrr i (by omega) 0 _ rfl
    have hN : Nb w g (.cells cur 35 (0, 0)) := hh
    refine ⟨us[i].bal, ?_⟩
    have e := hN.cell (i := 0 + i * 7 + 0)
    rw [hc] at e
    simpa using e.symm

set_option maxHeartbeats 4000000 in
theorem partialSteps_bad (A : Option Addr) (n cap : Nat) (Aq : Option Addr) (m capq : Nat) (c : Cfg) (w : World) (hn : n ≤ 9223372036854775807) (hm : m ≤ 9223372036854775807) (nok : ¬ c.Ok ∨ 60 < n ∨ 60 < m) : Calls Try.prog 5 #[.slice A n cap, .slice Aq m capq, .agg c.list.toArray] w (Tr w) := by
  have HF := Lib.hid (CfgAt.new w c)
  have HB0 := Lib.hid ((Below.refl w.heap.size w).alloc (Nat.le_refl _) (.cells c.list.toArray 26))
  have HCk := Lib.hid (fun w => check_any c w)
  have HAl := Lib.hid alive_any
  have HNk := Lib.hid nok
  clear nok
  go_enter Try.func5, Try.ntmps5
  go_wp2_with (first | ((with_reducible show wpList _ _ _ (_ :: _) _ _); refine wpList_load_cf (.tmp 5) rfl rfl rfl HF.out ?_) | fail)
  refine (HCk.out _).mono ?_
  rintro en w1 ⟨⟨r, rfl, hr⟩, hb⟩
  have HB := Lib.hid (HB0.out.trans (hb.mono HB0.out.size))
  clear HF hb HB0
  by_cases hr0 : r = 0
  · have h60 : 60 < n ∨ 60 < m := by
      rcases HNk.out with h | h
      · exact absurd (hr.1 hr0) h
      · exact h
    subst hr0
    clear hr HNk
    by_cases h6 : 60 < n
    · have hd : decide ((60 : Int) < (n : Int)) = true := by rw [decide_eq_true_iff]; omega
      clear h60
      go_wp2_with fail
      refine (HAl.out _).mono ?_
      rintro en w2 ⟨rfl, hb⟩
      have HB2 := Lib.hid (HB.out.trans (hb.mono HB.out.size))
      clear hb HB
      go_wp2
      go_ret
      exact ⟨rfl, HB2.out⟩
    · have h7 : 60 < m := by omega
      have hd : decide ((60 : Int) < (n : Int)) = false := by rw [decide_eq_false_iff_not]; omega
      have hd2 : decide ((60 : Int) < (m : Int)) = true := by rw [decide_eq_true_iff]; omega
      clear h60
      go_wp2_with fail
      refine (HAl.out _).mono ?_
      rintro en w2 ⟨rfl, hb⟩
      have HB2 := Lib.hid (HB.out.trans (hb.mono HB.out.size))
      clear hb HB
      go_wp2
      go_ret
      exact ⟨rfl, HB2.out⟩
  · have hr1 : (r != 0) = true := by simpa using hr0
    clear hr hr0 HNk
    go_wp2_with fail
    refine (HAl.out _).mono ?_
    rintro en w2 ⟨rfl, hb⟩
    have HB2 := Lib.hid (HB.out.trans (hb.mono HB.out.size))
    clear hb HB
    go_wp2
    go_ret
    exact ⟨rfl, HB2.out⟩

set_option maxHeartbeats 16000000 in
theorem partialSteps_ok (vs : List Val) (A : Option Addr) (n cap : Nat) (rs : List Req) (Aq : Option Addr) (m capq : Nat) (c : Cfg) (w : World) (hR : Row Val.list w A n vs) (hQ : Row Req.list w Aq m rs) (hn : n ≤ 60) (hm6 : m ≤ 60) (hok : AllOk vs) (hrs : ∀ r ∈ rs, r.Ok) (ok : c.Ok) : Calls Try.prog 5 #[.slice A n cap, .slice Aq m capq, .agg c.list.toArray] w (Tr w) := by
  have hmb : 0 ≤ c.minBal := by have := ok.h6; omega
  have hpt : 0 ≤ c.parts ∧ c.parts ≤ 4096 := by have := ok.h17; have := ok.h16; omega
  have HF := Lib.hid (Pcv.new c hR hQ)
  have HCk := Lib.hid (fun w => check_any c w)
  have HAl := Lib.hid alive_any
  have HOk := Lib.hid ok
  have HRq := Lib.hid (fun (w' : World) (hw : Row Req.list w' Aq m rs) => requests_any Aq m capq rs w' hw hm6)
  have HSt := Lib.hid (fun (Al : Option Addr) (cl : Nat) (Ar : Option Addr) (cr : Nat) (w' : World) (hw : Row Val.list w' Al n vs) (hw2 : Row Req.list w' Ar m rs) (hc : m ≤ cr) => step_any vs Al n cl rs Ar m cr c w' hw hn hok hmb hw2 hm6 hc hpt hrs)
  have HRt := Lib.hid (fun (w' : World) (hw : Row Val.list w' A n vs) (hw2 : Row Req.list w' Aq m rs) => rstep_any vs A n cap rs Aq m capq (min m c.parts.toNat) c w' hw hn hok hmb hw2 hm6 rfl hpt hrs)
  have HFr : Hid (Fair c vs (pfold c vs (rs.take (min m c.parts.toNat))).1 ((pfold c vs (rs.take (min m c.parts.toNat))).2.filter keepB)) := by
    have h := pfold_fair (c := c) (vs := vs) (rs := rs) hok hmb hpt.1 hrs
    rwa [← hQ.1] at h
  have HLn := Lib.hid hR.1
  unfold StepP at HSt
  unfold RStepP at HRt
  generalize (pfold c vs (rs.take (min m c.parts.toNat))).1 = us at *
  generalize ((pfold c vs (rs.take (min m c.parts.toNat))).2.filter keepB) = qs at *
  generalize hkn : min m c.parts.toNat = kn at *
  clear ok hR hQ hok hrs hkn
  have hd1 : decide ((60 : Int) < (n : Int)) = false := by rw [decide_eq_false_iff_not]; omega
  have hd2 : decide ((60 : Int) < (m : Int)) = false := by rw [decide_eq_false_iff_not]; omega
  have hul : us.length = n := by have := HFr.out.len; have := HLn.out; omega
  have hql : qs.length ≤ 4096 := by have := HFr.out.num; omega
  go_enter Try.func5, Try.ntmps5
  go_wp2_with (first | ((with_reducible show wpList _ _ _ (_ :: _) _ _); refine wpList_load_cf (.tmp 5) rfl rfl rfl HF.out.1 ?_) | fail)
  refine (HCk.out _).mono ?_
  rintro en w1 ⟨⟨r, rfl, hr⟩, hb⟩
  have HF1 := Lib.hid (HF.out.call hb)
  obtain rfl : r = 0 := hr.2 HOk.out
  clear HF hb hr HCk
  have hba : Below w1.heap.size w1 (w1.alloc (.cells #[] 35)) := (Below.refl _ _).alloc (Nat.le_refl _) _
  have HF1a := Lib.hid (HF1.out.call hba)
  have HO : Hid (World.ownsRow (w1.alloc (.cells #[] 35)) w1.heap.size 35 7 (.slice (some ⟨w1.heap.size, 0, none⟩) 0 0) 0 (flat Val.list [])) := by
    have := World.ownsRow_made (e := 35) (size := 7) w1 (base := w1.heap.size) #[] 0 (by simp) (by unfold maxLen; omega) rfl
    simpa [Hid, flat] using this
  go_wp2_with (first | ((with_reducible show wpList _ _ _ (⟨some 31, _, _, _, _, _⟩ :: _) _ _); refine halted ?_) | fail)
  unfold Halted
  refine wpList_appendR 22 Val.len (by decide) Val.one HO.out HF1a.out.2.2.1 (.agg Val.zero.list.toArray) Try.underlying22 Try.infoV rfl (by omega) (by omega) (by simp) rfl rfl rfl rfl ?_
  intro v' w2 hown hgr hat
  obtain ⟨Aw, cw, rfl⟩ := own_slice hown
  have hn0 : 0 + n = n := Nat.zero_add n
  rw [hn0] at hown ⊢
  have hb2 : Below w1.heap.size w1 w2 := hba.grown hgr (by simp) (fun k hk => by simp [Value.ownBlock] at hk; omega)
  have HF2 : Hid (Scv w.heap.size w c vs A Aw n rs Aq m w2) := by
    have h := HF1.out.call hb2
    exact ⟨h.1, h.2.1, h.2.2.1, row_of_own Val.len (by decide) (by simpa using hown), h.2.2.2⟩
  clear hown hgr hat hba hb2 hn0 HO HF1 HF1a
  go_upto_region 4 with fail
  have HF3 : Hid (Scv w.heap.size w c vs A Aw n rs Aq m w2.drew) := HF2.out.call (below_drewN (Below.refl _ _) 1)
  clear HF2
  refine wp_region_held_drew (S := Scv w.heap.size w c vs A Aw n rs Aq m) (by kernel_rfl) HF3.out (fun hS => ?_)
  generalize hwn : w2.drew = w3 at *
  clear hwn
  refine wpAnyH_take (i := 0) (v := ?v0_1) rfl (by kernel_rfl) (by kernel_rfl) (by kernel_rfl) (fun _ _ _ h => h) (Or.inl ⟨by rfl, ?y0_1⟩) hS ?z0_1
  case y0_1 => intro w hSw; (try dsimp only at hSw); go_simp; (try with_reducible rfl)
  try simp only [Act.put, List.getElem_toArray, List.getElem_cons_succ, List.getElem_cons_zero, List.setIfInBounds_toArray, List.set_cons_zero, List.set_cons_succ]
  refine wpAnyH_take (i := 1) (v := ?v1_2) rfl (by kernel_rfl) (by kernel_rfl) (by kernel_rfl) (fun _ _ _ h => h) (Or.inl ⟨by rfl, ?y1_2⟩) hS ?z1_2
  case y1_2 => intro w hSw; (try dsimp only at hSw); go_simp; (try with_reducible rfl)
  try simp only [Act.put, List.getElem_toArray, List.getElem_cons_succ, List.getElem_cons_zero, List.setIfInBounds_toArray, List.set_cons_zero, List.set_cons_succ]
  refine wpAnyH_take (i := 3) rfl (by kernel_rfl) (by kernel_rfl) (by kernel_rfl) (fun _ _ _ h => h) (yieldsIf_load_nb rfl 26 (.tmp 5) rfl w.heap.size 26 c.list.toArray rfl (fun w h => h.1) _ Try.underlying26 rfl (by show _ = some 20; kernel_rfl)) hS ?_
  try simp only [Act.put, List.getElem_toArray, List.getElem_cons_succ, List.getElem_cons_zero, List.setIfInBounds_toArray, List.set_cons_zero, List.set_cons_succ]
  refine wpAnyH_ready (rs := [2]) (by kernel_rfl) (by simp) (AllReadyH.cons rfl (fun K hK => ?_) AllReadyH.nil)
  go_simp
  refine (HRq.out _ HF3.out.2.2.2.2).mono ?_
  rintro en w4 ⟨Ar, cr, rfl, hrr, hcr, hb⟩
  have HF4 := Lib.hid (HF3.out.call hb)
  have HRr := Lib.hid hrr
  have HCr := Lib.hid hcr
  clear hrr hb hcr HF3 HRq
  refine hK.out _ _ HF4.out (fun hS => ?_)
  clear hK K
  try simp only [Act.put, List.getElem_toArray, List.getElem_cons_succ, List.getElem_cons_zero, List.setIfInBounds_toArray, List.set_cons_zero, List.set_cons_succ]
  refine wpAnyH_ready (rs := [4]) (by kernel_rfl) (by simp) (AllReadyH.cons rfl (fun K hK => ?_) AllReadyH.nil)
  go_simp
  refine (HSt.out Aw cw Ar cr _ HF4.out.2.2.2.1 HRr.out HCr.out).mono ?_
  rintro en w5 ⟨Ag, cg, Ap, mp, cp, rfl, hru, hrp, hb⟩
  have HF5 := Lib.hid (HF4.out.call hb)
  have HG := Lib.hid hru
  have HP := Lib.hid hrp
  clear hru hrp hb HRr HCr HSt
  refine hK.out _ _ HF5.out (fun hS => ?_)
  clear hK K
  try simp only [Act.put, List.getElem_toArray, List.getElem_cons_succ, List.getElem_cons_zero, List.setIfInBounds_toArray, List.set_cons_zero, List.set_cons_succ]
  refine wpAnyH_take (i := 5) (v := ?v5_3) rfl (by kernel_rfl) (by kernel_rfl) (by kernel_rfl) (fun _ _ _ h => h) (Or.inl ⟨by rfl, ?y5_3⟩) hS ?z5_3
  case y5_3 => intro w hSw; (try dsimp only at hSw); go_simp; (try with_reducible rfl)
  try simp only [Act.put, List.getElem_toArray, List.getElem_cons_succ, List.getElem_cons_zero, List.setIfInBounds_toArray, List.set_cons_zero, List.set_cons_succ]
  refine wpAnyH_take (i := 6) (v := ?v6_4) rfl (by kernel_rfl) (by kernel_rfl) (by kernel_rfl) (fun _ _ _ h => h) (Or.inl ⟨by rfl, ?y6_4⟩) hS ?z6_4
  case y6_4 => intro w hSw; (try dsimp only at hSw); go_simp; (try with_reducible rfl)
  try simp only [Act.put, List.getElem_toArray, List.getElem_cons_succ, List.getElem_cons_zero, List.setIfInBounds_toArray, List.set_cons_zero, List.set_cons_succ]
  refine wpAnyH_take (i := 7) (v := ?v7_5) rfl (by kernel_rfl) (by kernel_rfl) (by kernel_rfl) (fun _ _ _ h => h) (Or.inl ⟨by rfl, ?y7_5⟩) hS ?z7_5
  case y7_5 => intro w hSw; (try dsimp only at hSw); go_simp; (try with_reducible rfl)
  try simp only [Act.put, List.getElem_toArray, List.getElem_cons_succ, List.getElem_cons_zero, List.setIfInBounds_toArray, List.set_cons_zero, List.set_cons_succ]
  refine wpAnyH_take (i := 8) (v := ?v8_6) rfl (by kernel_rfl) (by kernel_rfl) (by kernel_rfl) (fun _ _ _ h => h) (Or.inl ⟨by rfl, ?y8_6⟩) hS ?z8_6
  case y8_6 => intro w hSw; (try dsimp only at hSw); go_simp; (try with_reducible rfl)
  try simp only [Act.put, List.getElem_toArray, List.getElem_cons_succ, List.getElem_cons_zero, List.setIfInBounds_toArray, List.set_cons_zero, List.set_cons_succ]
  refine wpAnyH_take (i := 9) (v := ?v9_7) rfl (by kernel_rfl) (by kernel_rfl) (by kernel_rfl) (fun _ _ _ h => h) (Or.inl ⟨by rfl, ?y9_7⟩) hS ?z9_7
  case y9_7 => intro w hSw; (try dsimp only at hSw); go_simp; (try with_reducible rfl)
  try simp only [Act.put, List.getElem_toArray, List.getElem_cons_succ, List.getElem_cons_zero, List.setIfInBounds_toArray, List.set_cons_zero, List.set_cons_succ]
  refine wpAnyH_take (i := 10) (v := ?v10_8) rfl (by kernel_rfl) (by kernel_rfl) (by kernel_rfl) (fun _ _ _ h => h) (Or.inl ⟨by rfl, ?y10_8⟩) hS ?z10_8
  case y10_8 => intro w hSw; (try dsimp only at hSw); go_simp; (try with_reducible rfl)
  try simp only [Act.put, List.getElem_toArray, List.getElem_cons_succ, List.getElem_cons_zero, List.setIfInBounds_toArray, List.set_cons_zero, List.set_cons_succ]
  refine wpAnyH_take (i := 11) (v := ?v11_9) rfl (by kernel_rfl) (by kernel_rfl) (by kernel_rfl) (fun _ _ _ h => h) (Or.inl ⟨by rfl, ?y11_9⟩) hS ?z11_9
  case y11_9 => intro w hSw; (try dsimp only at hSw); go_simp; (try with_reducible rfl)
  try simp only [Act.put, List.getElem_toArray, List.getElem_cons_succ, List.getElem_cons_zero, List.setIfInBounds_toArray, List.set_cons_zero, List.set_cons_succ]
  refine wpAnyH_done (by kernel_rfl) ?_ _
  clear hS
  go_wp2_with (first | ((with_reducible show wpList _ _ _ (_ :: _) _ _); refine wpList_load_cf (.tmp 5) rfl rfl rfl HF5.out.1 ?_) | fail)
  refine (HRt.out _ HF5.out.2.2.1 HF5.out.2.2.2.2).mono ?_
  rintro en w6 ⟨At, ct, Apt, mt, cpt, rfl, hrt, hrpt, hb⟩
  have HF6 := Lib.hid (HF5.out.call hb)
  have HG6 := Lib.hid (own_call HG.out hb)
  have HP6 := Lib.hid (HP.out.call hb)
  have HT6 := Lib.hid hrt
  have HPt6 := Lib.hid hrpt
  obtain rfl : mp = mt := HP.out.1.trans hrpt.1.symm
  have hmp : mp ≤ 100000 := by have := HP.out.1; omega
  clear hrt hrpt hb HF5 HG HP HRt
  go_wp2_with fail
  refine (same_any us Ag At n cg ct w6 (row_of_own Val.len (by decide) HG6.out) HT6.out (by omega)).mono ?_
  rintro en w7 ⟨rfl, hb⟩
  have HF7 := Lib.hid (HF6.out.call hb)
  have HG7 := Lib.hid (own_call HG6.out hb)
  have HP7 := Lib.hid (HP6.out.call hb)
  have HPt7 := Lib.hid (HPt6.out.call hb)
  clear hb HF6 HG6 HP6 HT6 HPt6
  go_wp2_with fail
  refine (eqp_any qs Ap Apt mp cp cpt w7 HP7.out HPt7.out hmp).mono ?_
  rintro en w8 ⟨rfl, hb⟩
  have HF8 := Lib.hid (HF7.out.call hb)
  have HG8 := Lib.hid (own_call HG7.out hb)
  clear hb HF7 HG7 HP7 HPt7
  go_wp2_with fail
  by_cases hn0 : n = 0
  · subst hn0
    refine wp_loop_rounds 1 ?_
    rw [rounds_succ]
    go_wp2_with fail
    refine (HAl.out _).mono ?_
    rintro en w9 ⟨rfl, hb⟩
    have HF9 := Lib.hid (HF8.out.call hb)
    clear HF8 hb
    go_wp2_with fail
    refine (same_any vs Aw A 0 cw cap w9 HF9.out.2.2.2.1 HF9.out.2.2.1 (by omega)).mono ?_
    rintro en w10 ⟨rfl, hb⟩
    have HF10 := Lib.hid (HF9.out.call hb)
    clear HF9 hb
    go_wp2_with fail
    go_ret
    exact ⟨rfl, HF10.out.2.1⟩
  · have hnp : 0 < n := by omega
    obtain ⟨gg, cg', hv, hg1, hg2, -⟩ := own_form HG8.out hnp
    simp only [Value.slice.injEq, true_and] at hv
    obtain ⟨rfl, rfl⟩ := hv
    have HGo := Lib.hid (GotOk.of HG8.out hul)
    have HBg : Hid (Below gg w8 w8) := Below.refl _ _
    obtain ⟨ba, oa, rfl, hba, -⟩ := row_some HF4.out.2.2.1 hnp
    obtain ⟨bw, ow, rfl, hbw, -⟩ := row_some HF4.out.2.2.2.1 hnp
    have hbag : ba < gg := by omega
    have hbwg : bw < gg := by omega
    have hwg : w.heap.size < gg := by have := HF4.out.1.lt; omega
    clear hba hbw hg1 HF4 HG8
    go_loopg [66] n (fun kk i wr => ∃ j : Nat, j + kk = n ∧ i = .int .i64 j ∧ Hid (GotOk gg n wr) ∧ Hid (Below gg w8 wr))
    case atStart => exact ⟨0, by omega, rfl, HGo, HBg⟩
    case round =>
      obtain ⟨j, hjk, rfl, HGr, HBr⟩ := hrel
      clear HGo HBg
      have HJ := Lib.hid hjk
      clear hjk
      by_cases hlt : j < n
      · obtain ⟨⟨z, e0⟩, ef⟩ := HGr.out.at_ j hlt
        have HG2 := Lib.hid (fun z' => HGr.out.set j z')
        have HB2 := Lib.hid (fun z' => HGr.out.below HBr.out (Nat.le_refl _) j (.int .u64 z'))
        have hj1 : (j : Int) < (n : Int) := by omega
        have hj0 : (0 : Int) ≤ (j : Int) := by omega
        clear HGr HBr
        go_wp2_with fail
        go_roundg (n - (j + 1))
        case measure => have := HJ.out; omega
        case rel => exact ⟨j + 1, by have := HJ.out; omega, by go_num, HG2.out _, HB2.out _⟩
      · obtain rfl : j = n := by have := HJ.out; omega
        clear HGr HJ hlt
        have HRa : Hid (Row Val.list wr (some ⟨ba, oa, none⟩) j vs) := HF8.out.2.2.1.keep HBr.out.size (fun ad h _ => by cases h; exact HBr.out.block _ hbag)
        have HRw : Hid (Row Val.list wr (some ⟨bw, ow, none⟩) j vs) := HF8.out.2.2.2.1.keep HBr.out.size (fun ad h _ => by cases h; exact HBr.out.block _ hbwg)
        have HBe : Hid (Below w.heap.size w wr) := HF8.out.2.1.trans (HBr.out.mono (Nat.le_of_lt hwg))
        clear HF8 HBr
        go_wp2_with fail
        refine (HAl.out _).mono ?_
        rintro en w9 ⟨rfl, hb⟩
        have HRa9 := Lib.hid (HRa.out.call hb)
        have HRw9 := Lib.hid (HRw.out.call hb)
        have HB9 := Lib.hid (HBe.out.trans (hb.mono HBe.out.size))
        clear HRa HRw HBe hb
        go_wp2_with fail
        refine (same_any vs _ _ j cw cap w9 HRw9.out HRa9.out (by omega)).mono ?_
        rintro en w10 ⟨rfl, hb⟩
        have HB10 := Lib.hid (HB9.out.trans (hb.mono HB9.out.size))
        clear HRa9 HRw9 HB9 hb
        go_wp2_with fail
        go_ret
        exact ⟨rfl, HB10.out⟩

theorem partialSteps_walk (vs : List Val) (A : Option Addr) (n cap : Nat) (rs : List Req) (Aq : Option Addr) (m capq : Nat) (c : Cfg) (w : World) (hR : Row Val.list w A n vs) (hn : n ≤ 9223372036854775807) (hok : AllOk vs) (hQ : Row Req.list w Aq m rs) (hm : m ≤ 9223372036854775807) (hrs : ∀ r ∈ rs, r.Ok) :
    Calls Try.prog 5 #[.slice A n cap, .slice Aq m capq, .agg c.list.toArray] w fun en w' => en = .returned (.bool true) ∧ Below w.heap.size w w' := by
  by_cases h : ¬ c.Ok ∨ 60 < n ∨ 60 < m
  · exact partialSteps_bad A n cap Aq m capq c w hn hm h
  · exact partialSteps_ok vs A n cap rs Aq m capq c w hR hQ (by omega) (by omega) hok hrs (by
      by_cases ok : c.Ok
      · exact ok
      · exact absurd (.inl ok) h)

end Go.Proofs.Ytbafgipegekbcaa
