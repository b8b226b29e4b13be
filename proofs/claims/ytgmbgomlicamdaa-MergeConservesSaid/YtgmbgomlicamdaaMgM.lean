/- Chapter 16: the walk of MergeConserves. -/
import Derived.Test.YtgmbgomlicamdaaMgL
namespace Go.Proofs.Ytgmbgomlicamdaa
open Go.RowKit Go.Maps
set_option linter.unusedSimpArgs false
set_option linter.unusedVariables false
set_option maxRecDepth 20000

/-- A configuration boxed at p; a row of validators and a queue that came in. -/
def Mcv (p : Nat) (w0 : World) (c : Cfg) (vs : List Val) (A : Option Addr) (n : Nat) (ps : List (Int × Int)) (Aq : Option Addr) (m : Nat) (w : World) : Prop :=
  CfgAt w p c ∧ Below p w0 w ∧ Vals w A n vs ∧ Row pairL w Aq m ps
theorem Mcv.call {p : Nat} {w0 w w' : World} {c : Cfg} {vs : List Val} {A : Option Addr} {n : Nat} {ps : List (Int × Int)} {Aq : Option Addr} {m : Nat} (h : Mcv p w0 c vs A n ps Aq m w) (hb : Below w.heap.size w w') : Mcv p w0 c vs A n ps Aq m w' :=
  ⟨h.1.call hb, h.2.1.trans (hb.mono (Nat.le_of_lt h.1.lt)), h.2.2.1.call hb, h.2.2.2.call hb⟩
theorem Mcv.new {w : World} {vs : List Val} {A : Option Addr} {n : Nat} {ps : List (Int × Int)} {Aq : Option Addr} {m : Nat} (c : Cfg) (h : Vals w A n vs) (hq : Row pairL w Aq m ps) : Mcv w.heap.size w c vs A n ps Aq m (w.alloc (.cells c.list.toArray 26)) :=
  ⟨CfgAt.new w c, (Below.refl _ _).alloc (Nat.le_refl _) _, h.alloc _, hq.alloc _⟩

set_option maxHeartbeats 4000000 in
theorem mergeConserves_bad (A : Option Addr) (n cap : Nat) (Aq : Option Addr) (m capq : Nat) (c : Cfg) (w : World) (hn : n ≤ 9223372036854775807) (hm : m ≤ 9223372036854775807) (nok : ¬ c.Ok ∨ 60 < n ∨ 60 < m) : Calls Try.prog 6 #[.slice A n cap, .slice Aq m capq, .agg c.list.toArray] w (Tr w) := by
  have HF := Lib.hid (CfgAt.new w c)
  have HB0 := Lib.hid ((Below.refl w.heap.size w).alloc (Nat.le_refl _) (.cells c.list.toArray 26))
  have HCk := Lib.hid (fun w => check_any c w)
  have HAl := Lib.hid alive_any
  have HNk := Lib.hid nok
  clear nok
  go_enter Try.func6, Try.ntmps6
  go_wp2_with (first | ((with_reducible show wpList _ _ _ (_ :: _) _ _); refine wpList_load_cf (.tmp 5) rfl rfl rfl HF.out ?_) | fail)
  refine (HCk.out _).mono ?_
  rintro en w1 ⟨⟨r, rfl, hr⟩, hb⟩
  have HB := Lib.hid (HB0.out.trans (hb.mono HB0.out.size))
  clear HF hb HB0
  by_cases hr0 : r = 0
  · have h60 : 60 < n ∨ 60 < m := by
      rcases HNk.out with h | h
      · exact absurd (hr.1 hr0) h
      · exact h
    subst hr0
    clear hr HNk
    by_cases h6 : 60 < n
    · have hd : decide ((60 : Int) < (n : Int)) = true := by rw [decide_eq_true_iff]; omega
      clear h60
      go_wp2_with fail
      refine (HAl.out _).mono ?_
      rintro en w2 ⟨rfl, hb⟩
      have HB2 := Lib.hid (HB.out.trans (hb.mono HB.out.size))
      clear hb HB
      go_wp2
      go_ret
      exact ⟨rfl, HB2.out⟩
    · have h7 : 60 < m := by omega
      have hd : decide ((60 : Int) < (n : Int)) = false := by rw [decide_eq_false_iff_not]; omega
      have hd2 : decide ((60 : Int) < (m : Int)) = true := by rw [decide_eq_true_iff]; omega
      clear h60
      go_wp2_with fail
      refine (HAl.out _).mono ?_
      rintro en w2 ⟨rfl, hb⟩
      have HB2 := Lib.hid (HB.out.trans (hb.mono HB.out.size))
      clear hb HB
      go_wp2
      go_ret
      exact ⟨rfl, HB2.out⟩
  · have hr1 : (r != 0) = true := by simpa using hr0
    clear hr hr0 HNk
    go_wp2_with fail
    refine (HAl.out _).mono ?_
    rintro en w2 ⟨rfl, hb⟩
    have HB2 := Lib.hid (HB.out.trans (hb.mono HB.out.size))
    clear hb HB
    go_wp2
    go_ret
    exact ⟨rfl, HB2.out⟩

set_option maxHeartbeats 8000000 in
theorem mergeConserves_ok (vs : List Val) (A : Option Addr) (n cap : Nat) (ps : List (Int × Int)) (Aq : Option Addr) (m capq : Nat) (c : Cfg) (w : World) (hR : Vals w A n vs) (hQ : Row pairL w Aq m ps) (hn : n ≤ 60) (hm6 : m ≤ 60) (hcq : m ≤ capq) (hok : AllOk vs) (ok : c.Ok) :
    Calls Try.prog 6 #[.slice A n cap, .slice Aq m capq, .agg c.list.toArray] w (Tr w) := by
  have hm : c.maxBal ≤ 1152921504606846976 := by have := ok.h7; have := ok.h5; omega
  have hmg : 0 ≤ c.merges ∧ c.merges ≤ 4096 := ok.h18
  have HF := Lib.hid (Mcv.new c hR hQ)
  have HCk := Lib.hid (fun w => check_any c w)
  have HAl := Lib.hid alive_any
  have HOk := Lib.hid ok
  have HFi := Lib.hid (fun (w' : World) (hw : Mcv w.heap.size w c vs A n ps Aq m w') => fits_any A n cap vs w' hw.2.2.1 (by omega) hok)
  have HSt := Lib.hid (fun (w' : World) (hw : Mcv w.heap.size w c vs A n ps Aq m w') => mstep_any vs A n cap ps Aq m capq c w' hw.2.2.1 hn hok hm hw.2.2.2 hm6 hcq hmg)
  have HSp := Lib.hid (mfold_spec hm (ps.take (min m c.merges.toNat)) hok)
  have HLn := Lib.hid hR.1
  have HOK := Lib.hid hok
  generalize mfold c vs (ps.take (min m c.merges.toNat)) = us at *
  clear ok hR hQ hok hmg
  have hd1 : decide ((60 : Int) < (n : Int)) = false := by rw [decide_eq_false_iff_not]; omega
  have hd2 : decide ((60 : Int) < (m : Int)) = false := by rw [decide_eq_false_iff_not]; omega
  go_enter Try.func6, Try.ntmps6
  go_wp2_with (first | ((with_reducible show wpList _ _ _ (_ :: _) _ _); refine wpList_load_cf (.tmp 5) rfl rfl rfl HF.out.1 ?_) | fail)
  refine (HCk.out _).mono ?_
  rintro en w1 ⟨⟨r, rfl, hr⟩, hb⟩
  have HF1 := Lib.hid (HF.out.call hb)
  obtain rfl : r = 0 := hr.2 HOk.out
  clear HF hb hr HOk HCk
  go_wp2_with fail
  refine (HFi.out _ HF1.out).mono ?_
  rintro en w2 ⟨rfl, hb⟩
  have HF2 := Lib.hid (HF1.out.call hb)
  clear HF1 hb HFi
  by_cases hfit : (vs.map balOf).sum ≤ 18446744073709551615
  · have hf : fitsB vs = true := by unfold fitsB; simpa using hfit
    rw [hf]
    have HFt := Lib.hid hfit
    have HTl := Lib.hid (fun (w' : World) (hw : Mcv w.heap.size w c vs A n ps Aq m w') => total_any A n cap vs w' hw.2.2.1 (by omega) HOK.out HFt.out)
    have HAc := Lib.hid (fun (w' : World) (hw : Mcv w.heap.size w c vs A n ps Aq m w') => active_any A n cap vs w' hw.2.2.1 (by omega) HOK.out HFt.out)
    clear hfit hf
    go_wp2_with (first | ((with_reducible show wpList _ _ _ (_ :: _) _ _); refine wpList_load_cf (.tmp 5) rfl rfl rfl HF2.out.1 ?_) | fail)
    refine (HSt.out _ HF2.out).mono ?_
    rintro en w3 ⟨Ag, cg, vd, rfl, hRg, hb⟩
    obtain ⟨hs1, hs2, hs3, hs4⟩ := HSp.out
    have hug : (us.map balOf).sum ≤ 18446744073709551615 := by rw [hs3]; exact HFt.out
    have hfg : fitsB us = true := by unfold fitsB; simpa using hug
    have HRg := Lib.hid hRg
    have HFg := Lib.hid (fun (w' : World) (hw : Vals w' Ag n us) => fits_any Ag n cg us w' hw (by omega) hs2)
    have HTg := Lib.hid (fun (w' : World) (hw : Vals w' Ag n us) => total_any Ag n cg us w' hw (by omega) hs2 hug)
    have HAg := Lib.hid (fun (w' : World) (hw : Vals w' Ag n us) => active_any Ag n cg us w' hw (by omega) hs2 hug)
    rw [hfg] at HFg
    rw [hs3] at HTg
    rw [hs4] at HAg
    generalize (vs.map balOf).sum = tb at *
    generalize (vs.map actOf).sum = ta at *
    have HF3 := Lib.hid (HF2.out.call hb)
    clear hRg hb hs1 hs2 hs3 hs4 hug hfg HF2 HSt HSp HFt HOK
    go_wp2_with fail
    refine (HAl.out _).mono ?_
    rintro en w4 ⟨rfl, hb⟩
    have HF4 := Lib.hid (HF3.out.call hb)
    have HR4 := Lib.hid (HRg.out.call hb)
    clear HF3 HRg hb
    go_wp2_with fail
    refine (HFg.out _ HR4.out).mono ?_
    rintro en w5 ⟨rfl, hb⟩
    have HF5 := Lib.hid (HF4.out.call hb)
    have HR5 := Lib.hid (HR4.out.call hb)
    clear HF4 HR4 hb
    go_wp2_with fail
    refine (HTg.out _ HR5.out).mono ?_
    rintro en w6 ⟨rfl, hb⟩
    have HF6 := Lib.hid (HF5.out.call hb)
    have HR6 := Lib.hid (HR5.out.call hb)
    clear HF5 HR5 hb
    go_wp2_with fail
    refine (HTl.out _ HF6.out).mono ?_
    rintro en w7 ⟨rfl, hb⟩
    have HF7 := Lib.hid (HF6.out.call hb)
    have HR7 := Lib.hid (HR6.out.call hb)
    clear HF6 HR6 hb
    go_wp2_with fail
    refine (HAg.out _ HR7.out).mono ?_
    rintro en w8 ⟨rfl, hb⟩
    have HF8 := Lib.hid (HF7.out.call hb)
    clear HF7 HR7 hb
    go_wp2_with fail
    refine (HAc.out _ HF8.out).mono ?_
    rintro en w9 ⟨rfl, hb⟩
    have HF9 := Lib.hid (HF8.out.call hb)
    clear HF8 hb
    go_wp2_with fail
    go_ret
    exact ⟨rfl, HF9.out.2.1⟩
  · have hf : fitsB vs = false := by unfold fitsB; simpa using hfit
    rw [hf]
    clear hfit hf
    go_wp2_with fail
    refine (HAl.out _).mono ?_
    rintro en w3 ⟨rfl, hb⟩
    have HF3 := Lib.hid (HF2.out.call hb)
    clear hb HF2
    go_wp2_with fail
    go_ret
    exact ⟨rfl, HF3.out.2.1⟩

theorem mergeConserves_walk (vs : List Val) (A : Option Addr) (n cap : Nat) (ps : List (Int × Int)) (Aq : Option Addr) (m capq : Nat) (c : Cfg) (w : World) (hR : Vals w A n vs) (hn : n ≤ 9223372036854775807) (hok : ∀ v ∈ vs, v.Ok) (hQ : Row pairL w Aq m ps) (hm : m ≤ 9223372036854775807) (hcq : m ≤ capq) :
    Calls Try.prog 6 #[.slice A n cap, .slice Aq m capq, .agg c.list.toArray] w fun en w' => en = .returned (.bool true) ∧ Below w.heap.size w w' := by
  by_cases h : ¬ c.Ok ∨ 60 < n ∨ 60 < m
  · exact mergeConserves_bad A n cap Aq m capq c w hn hm h
  · exact mergeConserves_ok vs A n cap ps Aq m capq c w hR hQ (by omega) (by omega) hcq hok (by
      by_cases ok : c.Ok
      · exact ok
      · exact absurd (.inl ok) h)

end Go.Proofs.Ytgmbgomlicamdaa
