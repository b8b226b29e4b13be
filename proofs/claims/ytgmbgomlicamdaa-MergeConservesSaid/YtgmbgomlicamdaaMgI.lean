/- Chapter 16: the walk of MergeChains. -/
import Derived.Test.YtgmbgomlicamdaaMgH
import Derived.Deep.Cut
namespace Go.Proofs.Ytgmbgomlicamdaa
open Go.RowKit Go.Maps
set_option linter.unusedSimpArgs false
set_option linter.unusedVariables false
set_option maxRecDepth 20000

/-- The boxes, the row, two of its validators. -/
def RqS (b : Nat) (w0 : World) (p q : Int) (c : Cfg) (vs : List Val) (g o n s d : Nat) (x y : Val) (w : World) : Prop :=
  RqL b b w0 p q c vs (some ⟨g, o, none⟩) n w ∧ w.rangeAt g (o + s * 7) x.list ∧ w.rangeAt g (o + d * 7) y.list ∧ g < b
theorem RqS.call {b : Nat} {w0 w w' : World} {p q : Int} {c : Cfg} {vs : List Val} {g o n s d : Nat} {x y : Val} (h : RqS b w0 p q c vs g o n s d x y w) (hb : Below w.heap.size w w') : RqS b w0 p q c vs g o n s d x y w' := by
  have hl := h.1.1.lt
  have hg := h.2.2.2
  exact ⟨h.1.call hb, range_call h.2.1 (by omega) hb, range_call h.2.2.1 (by omega) hb, hg⟩
theorem RqS.alloc {b : Nat} {w0 w : World} {p q : Int} {c : Cfg} {vs : List Val} {g o n s d : Nat} {x y : Val} (h : RqS b w0 p q c vs g o n s d x y w) (ob : Obj) : RqS b w0 p q c vs g o n s d x y (w.alloc ob) := h.call ((Below.refl _ _).alloc (Nat.le_refl _) _)
theorem RqS.setRow {b : Nat} {w0 w : World} {p q : Int} {c : Cfg} {vs : List Val} {g o n s d k : Nat} {x y : Val} (h : RqS b w0 p q c vs g o n s d x y w) (cs : Array Value) (hk : b + 2 ≤ k) : RqS b w0 p q c vs g o n s d x y (w.setRow k cs) := by
  have hg := h.2.2.2
  have hb : ∀ i, i < b + 2 → (w.setRow k cs).heap[i]? = w.heap[i]? := fun i hi => setRow_other w k i cs (by omega)
  have hr : ∀ {off : Nat} {l : List Value}, w.rangeAt g off l → (w.setRow k cs).rangeAt g off l := fun hr j v hj => (World.cell?_of_block (w := w) (a := ⟨g, _, none⟩) (hb g (by omega))).trans (hr j v hj)
  refine ⟨⟨(hb b (by omega)).trans h.1.1, (hb (b + 1) (by omega)).trans h.1.2.1, below_setRow h.1.2.2.1 (by omega) _, h.1.2.2.2.1, h.1.2.2.2.2.keep (by simp [World.setRow]) (fun ad ha _ => by cases ha; exact hb g (by omega))⟩, hr h.2.1, hr h.2.2.1, hg⟩

/-- .. and the two validators that Apply handed back. -/
def RqE (b : Nat) (w0 : World) (p q : Int) (c : Cfg) (vs : List Val) (g o n s d : Nat) (x y : Val) (b7 b8 : Nat) (w : World) : Prop :=
  RqS b w0 p q c vs g o n s d x y w ∧ ValAt w b7 x.mv1 ∧ ValAt w b8 (x.mv2 y)
theorem RqE.call {b : Nat} {w0 w w' : World} {p q : Int} {c : Cfg} {vs : List Val} {g o n s d : Nat} {x y : Val} {b7 b8 : Nat} (h : RqE b w0 p q c vs g o n s d x y b7 b8 w) (hb : Below w.heap.size w w') : RqE b w0 p q c vs g o n s d x y b7 b8 w' :=
  ⟨h.1.call hb, h.2.1.call hb, h.2.2.call hb⟩

theorem mv1_ok {x : Val} (h : x.Ok) : x.mv1.Ok := ⟨by show (0 : Int) ≤ 0; omega, by show (0 : Int) ≤ _; omega⟩
theorem mv2_ok {x y : Val} {c : Cfg} (hx : x.Ok) (hy : y.Ok) (hk : Val.chk x y c = 0) (hm : c.maxBal ≤ 1152921504606846976) : (x.mv2 y).Ok := by
  obtain ⟨-, h⟩ := chk_zero hk
  have := hx.1; have := hy.1
  exact ⟨by show 0 ≤ y.bal + x.bal; omega, by show y.bal + x.bal ≤ _; omega⟩
theorem mem_set {α : Type} {l : List α} {i : Nat} {a b : α} (h : a ∈ l.set i b) : a ∈ l ∨ a = b := by
  rcases List.mem_or_eq_of_mem_set h with h | h
  · exact .inl h
  · exact .inr h
theorem chains_ok {vs : List Val} {s d : Nat} {x y : Val} {c : Cfg} (hok : ∀ v ∈ vs, v.Ok) (hx : x.Ok) (hy : y.Ok) (hk : Val.chk x y c = 0) (hm : c.maxBal ≤ 1152921504606846976) : ∀ v ∈ (vs.set s x.mv1).set d (x.mv2 y), v.Ok := by
  intro v hv
  rcases mem_set hv with hv | rfl
  · rcases mem_set hv with hv | rfl
    · exact hok v hv
    · exact mv1_ok hx
  · exact mv2_ok hx hy hk hm
theorem chains_code1 {vs : List Val} {s d : Nat} {x y : Val} {c : Cfg} (hs : s < vs.length) (hd : d < vs.length) (hne : s ≠ d) : reqCode ((vs.set s x.mv1).set d (x.mv2 y)) s d c = 8 := by
  rw [reqCode_in c (by simpa using hs) (by simpa using hd) hne]
  have e : ((vs.set s x.mv1).set d (x.mv2 y))[s]'(by simpa using hs) = x.mv1 := by rw [List.getElem_set_ne (Ne.symm hne), List.getElem_set_self]
  rw [e]
  unfold Val.chk
  rw [if_pos (by show ((7 : Int) == 2 && _) = false; rfl)]
theorem chains_code2 {vs : List Val} {s d : Nat} {x y : Val} {c : Cfg} (hs : s < vs.length) (hd : d < vs.length) (hne : s ≠ d) : reqCode ((vs.set s x.mv1).set d (x.mv2 y)) d s c = 8 := by
  rw [reqCode_in c (by simpa using hd) (by simpa using hs) (Ne.symm hne)]
  have e : ((vs.set s x.mv1).set d (x.mv2 y))[s]'(by simpa using hs) = x.mv1 := by rw [List.getElem_set_ne (Ne.symm hne), List.getElem_set_self]
  rw [e]
  unfold Val.chk
  rw [if_pos (by show (_ && ((7 : Int) == 2)) = false; simp)]

set_option maxHeartbeats 4000000 in
theorem mergeChains_bad (A : Option Addr) (n cap : Nat) (x y : Int) (c : Cfg) (w : World) (hn : n ≤ 9223372036854775807) (nok : ¬ c.Ok ∨ 60 < n) : Calls Try.prog 5 #[.slice A n cap, .agg #[.int .i64 x, .int .i64 y], .agg c.list.toArray] w (Tr w) := by
  have HF := Lib.hid (RqL.new w x y c (vs := []) (A := none) (n := 0) ⟨rfl, .inl rfl⟩)
  have HCk := Lib.hid (fun w => check_any c w)
  have HAl := Lib.hid alive_any
  have HNk := Lib.hid nok
  clear nok
  go_enter Try.func5, Try.ntmps5
  go_wp2_with (first | ((with_reducible show wpList _ _ _ (_ :: _) _ _); refine wpList_load_cf (.tmp 5) rfl rfl rfl HF.out.2.1 ?_) | fail)
  refine (HCk.out _).mono ?_
  rintro en w1 ⟨⟨r, rfl, hr⟩, hb⟩
  have hc := HF.out.call hb
  have HB := Lib.hid hc.2.2.1
  clear HF hb hc
  by_cases hr0 : r = 0
  · have h60 : 60 < n := by
      rcases HNk.out with h | h
      · exact absurd (hr.1 hr0) h
      · exact h
    subst hr0
    clear hr HNk
    go_wp2_with fail
    refine (HAl.out _).mono ?_
    rintro en w2 ⟨rfl, hb⟩
    have HB2 := Lib.hid (HB.out.trans (hb.mono HB.out.size))
    clear hb HB
    go_wp2
    go_ret
    exact ⟨rfl, HB2.out⟩
  · have hr1 : (r != 0) = true := by simpa using hr0
    clear hr hr0 HNk
    go_wp2_with fail
    refine (HAl.out _).mono ?_
    rintro en w2 ⟨rfl, hb⟩
    have HB2 := Lib.hid (HB.out.trans (hb.mono HB.out.size))
    clear hb HB
    go_wp2
    go_ret
    exact ⟨rfl, HB2.out⟩

set_option maxHeartbeats 8000000 in
theorem mergeChains_no (vs : List Val) (A : Option Addr) (n cap : Nat) (x y : Int) (c : Cfg) (w : World) (hR : Vals w A n vs) (hn : n ≤ 60) (hok : ∀ v ∈ vs, v.Ok) (ok : c.Ok) (hk : reqCode vs x y c ≠ 0) : Calls Try.prog 5 #[.slice A n cap, .agg #[.int .i64 x, .int .i64 y], .agg c.list.toArray] w (Tr w) := by
  have hm : c.maxBal ≤ 1152921504606846976 := by have := ok.h7; have := ok.h5; omega
  have HF := Lib.hid (RqL.new w x y c hR)
  have HCk := Lib.hid (fun w => check_any c w)
  have HAl := Lib.hid alive_any
  have HOk := Lib.hid ok
  have HR := Lib.hid (fun (w' : World) (hw : RqL w.heap.size w.heap.size w x y c vs A n w') => rreq_any vs A n cap x y c w' hw.2.2.2.2 (by omega) hok hm)
  generalize reqCode vs x y c = k at *
  have hk1 : (k != 0) = true := by simpa using hk
  clear ok hR hok hm hk
  have hn6 : decide ((60 : Int) < (n : Int)) = false := by rw [decide_eq_false_iff_not]; omega
  go_enter Try.func5, Try.ntmps5
  go_wp2_with (first | ((with_reducible show wpList _ _ _ (_ :: _) _ _); refine wpList_load_cf (.tmp 5) rfl rfl rfl HF.out.2.1 ?_) | fail)
  refine (HCk.out _).mono ?_
  rintro en w1 ⟨⟨r, rfl, hr⟩, hb⟩
  have HF1 := Lib.hid (HF.out.call hb)
  obtain rfl : r = 0 := hr.2 HOk.out
  clear HF hb hr HOk HCk
  have e0 := HF1.out.1.cell (i := 0)
  have e1 := HF1.out.1.cell (i := 1)
  simp only [List.getElem?_toArray, List.getElem?_cons_zero, List.getElem?_cons_succ] at e0 e1
  go_wp2_with (first | ((with_reducible show wpList _ _ _ (_ :: _) _ _); refine wpList_load_cf (.tmp 5) rfl rfl rfl HF1.out.2.1 ?_) | fail)
  refine (HR.out _ HF1.out).mono ?_
  rintro en w2 ⟨rfl, hb⟩
  have HB := Lib.hid (HF1.out.call hb).2.2.1
  clear HF1 hb HR e0 e1
  go_wp2_with fail
  refine (HAl.out _).mono ?_
  rintro en w3 ⟨rfl, hb⟩
  have HB2 := Lib.hid (HB.out.trans (hb.mono HB.out.size))
  clear hb HB
  go_wp2_with fail
  go_ret
  exact ⟨rfl, HB2.out⟩

set_option maxHeartbeats 16000000 in
theorem mergeChains_good (vs : List Val) (g o n cap s d : Nat) (c : Cfg) (w : World) (hlen : n = vs.length) (hg : g < w.heap.size) (hr : w.rangeAt g o (flat Val.list vs)) (hn : n ≤ 60) (hok : ∀ v ∈ vs, v.Ok) (ok : c.Ok) (hs : s < n) (hd : d < n) (hne : s ≠ d)
    (x y : Val) (hx : vs[s]? = some x) (hy : vs[d]? = some y) (hk : Val.chk x y c = 0) : Calls Try.prog 5 #[.slice (some ⟨g, o, none⟩) n cap, .agg #[.int .i64 s, .int .i64 d], .agg c.list.toArray] w (Tr w) := by
  have hm : c.maxBal ≤ 1152921504606846976 := by have := ok.h7; have := ok.h5; omega
  have hR : Vals w (some ⟨g, o, none⟩) n vs := ⟨hlen, .inr ⟨g, o, rfl, hg, hr⟩⟩
  have ex : vs[s]'(by omega) = x := by rw [List.getElem?_eq_getElem (by omega)] at hx; exact Option.some.inj hx
  have ey : vs[d]'(by omega) = y := by rw [List.getElem?_eq_getElem (by omega)] at hy; exact Option.some.inj hy
  have hxo : x.Ok := by rw [← ex]; exact hok _ (List.getElem_mem _)
  have hyo : y.Ok := by rw [← ey]; exact hok _ (List.getElem_mem _)
  have rx := Row.elem Val.len hr s (by omega)
  rw [ex] at rx
  have ry := Row.elem Val.len hr d (by omega)
  rw [ey] at ry
  have hq : reqCode vs s d c = 0 := by rw [reqCode_in c (by omega) (by omega) hne, ex, ey]; exact hk
  have HS : Hid (RqS w.heap.size w s d c vs g o n s d x y ((w.alloc (.cells #[.int .i64 s, .int .i64 d] 37)).alloc (.cells c.list.toArray 26))) := by
    have h := RqL.new w s d c hR
    have hb := ((Below.refl w.heap.size w).alloc (Nat.le_refl _) (.cells #[.int .i64 s, .int .i64 d] 37))
    have hb2 := hb.alloc hb.size (.cells c.list.toArray 26)
    exact ⟨h, range_call rx hg hb2, range_call ry hg hb2, hg⟩
  have HCk := Lib.hid (fun w => check_any c w)
  have HAl := Lib.hid alive_any
  have HOk := Lib.hid ok
  have HRr := Lib.hid (fun (w' : World) (hw : RqS w.heap.size w s d c vs g o n s d x y w') => rreq_any vs _ n cap s d c w' hw.1.2.2.2.2 (by omega) hok hm)
  rw [hq] at HRr
  have HA := Lib.hid (fun w => apply_any x y c w hxo hyo hm)
  rw [hk] at HA
  have hvok : ∀ v ∈ (vs.set s x.mv1).set d (x.mv2 y), v.Ok := chains_ok hok hxo hyo hk hm
  have HM1 := Lib.hid (fun (g c1 : Nat) (w' : World) (hw : Vals w' (some ⟨g, 0, none⟩) n ((vs.set s x.mv1).set d (x.mv2 y))) => mreq_any _ _ n c1 s d c w' hw (by omega) hvok hm)
  have HM2 := Lib.hid (fun (g c1 : Nat) (w' : World) (hw : Vals w' (some ⟨g, 0, none⟩) n ((vs.set s x.mv1).set d (x.mv2 y))) => mreq_any _ _ n c1 d s c w' hw (by omega) hvok hm)
  rw [chains_code1 (by omega) (by omega) hne] at HM1
  rw [chains_code2 (by omega) (by omega) hne] at HM2
  clear ok hR hok hm ex ey rx ry hq hr hlen hxo hyo hvok hx hy hk
  have hs1 : (s : Int) < (n : Int) := by omega
  have hs0 : (0 : Int) ≤ (s : Int) := by omega
  have hd1 : (d : Int) < (n : Int) := by omega
  have hd0 : (0 : Int) ≤ (d : Int) := by omega
  have hn' : n ≤ 100000 := by omega
  have hn6 : decide ((60 : Int) < (n : Int)) = false := by rw [decide_eq_false_iff_not]; omega
  go_enter Try.func5, Try.ntmps5
  have e0 := HS.out.1.1.cell (i := 0)
  have e1 := HS.out.1.1.cell (i := 1)
  simp only [List.getElem?_toArray, List.getElem?_cons_zero, List.getElem?_cons_succ] at e0 e1
  go_wp2_with (first | ((with_reducible show wpList _ _ _ (_ :: _) _ _); refine wpList_load_cf (.tmp 5) rfl rfl rfl HS.out.1.2.1 ?_) | fail)
  refine (HCk.out _).mono ?_
  rintro en w1 ⟨⟨r, rfl, hr⟩, hb⟩
  have HS1 := Lib.hid (HS.out.call hb)
  obtain rfl : r = 0 := hr.2 HOk.out
  clear HS hb hr HOk HCk e0 e1
  have e0 := HS1.out.1.1.cell (i := 0)
  have e1 := HS1.out.1.1.cell (i := 1)
  simp only [List.getElem?_toArray, List.getElem?_cons_zero, List.getElem?_cons_succ] at e0 e1
  go_wp2_with (first | ((with_reducible show wpList _ _ _ (_ :: _) _ _); refine wpList_load_cf (.tmp 5) rfl rfl rfl HS1.out.1.2.1 ?_) | fail)
  refine (HRr.out _ HS1.out).mono ?_
  rintro en w2 ⟨rfl, hb⟩
  have HSw2 := Lib.hid (HS1.out.call hb)
  clear HS1 hb HRr e0 e1
  go_upto_region 3 with fail
  go_cut [7, 8, 9] from 10 (fun s7 s8 s9 wx => ∃ b7 b8 : Nat, s7 = .pointer (some ⟨b7, 0, none⟩) ∧ s8 = .pointer (some ⟨b8, 0, none⟩) ∧ s9 = .int .i64 0 ∧ Hid (RqS w.heap.size w s d c vs g o n s d x y wx) ∧ Hid (ValAt wx b7 x.mv1) ∧ Hid (ValAt wx b8 (x.mv2 y)))
  case first =>
    have HSw3 : Hid (RqS w.heap.size w s d c vs g o n s d x y w2.drew) := HSw2.out.call (below_drewN (Below.refl _ _) 1)
    refine wp_region_held_drew (S := RqS w.heap.size w s d c vs g o n s d x y) (by kernel_rfl) HSw3.out (fun hS => ?_)
    clear HSw2
    generalize hwn : w2.drew = w3 at *
    clear hwn
    refine wpAnyH_take (i := 0) (v := ?v0_1) rfl (by kernel_rfl) (by kernel_rfl) (by kernel_rfl) (fun _ _ _ h => h) (Or.inl ⟨by rfl, ?y0_1⟩) hS ?z0_1
    case y0_1 => intro w hSw; (try dsimp only at hSw); go_simp; (try with_reducible rfl)
    try simp only [Act.put, List.getElem_toArray, List.getElem_cons_succ, List.getElem_cons_zero, List.setIfInBounds_toArray, List.set_cons_zero, List.set_cons_succ]
    refine wpAnyH_take (i := 1) (v := ?v1_2) rfl (by kernel_rfl) (by kernel_rfl) (by kernel_rfl) (fun _ _ _ h => h) (Or.inl ⟨by rfl, ?y1_2⟩) hS ?z1_2
    case y1_2 => intro w hSw; (try dsimp only at hSw); go_simp; (try with_reducible rfl)
    try simp only [Act.put, List.getElem_toArray, List.getElem_cons_succ, List.getElem_cons_zero, List.setIfInBounds_toArray, List.set_cons_zero, List.set_cons_succ]
    refine wpAnyH_take (i := 2) (v := ?v2_3) rfl (by kernel_rfl) (by kernel_rfl) (by kernel_rfl) (fun _ _ _ h => h) (Or.inl ⟨by rfl, ?y2_3⟩) hS ?z2_3
    case y2_3 => intro w hSw; have e := (hSw.1.1).cell (i := 0); simp only [List.getElem?_toArray, List.getElem?_cons_zero, List.getElem?_cons_succ] at e; clear hSw; go_simp; (try with_reducible rfl)
    try simp only [Act.put, List.getElem_toArray, List.getElem_cons_succ, List.getElem_cons_zero, List.setIfInBounds_toArray, List.set_cons_zero, List.set_cons_succ]
    refine wpAnyH_take (i := 3) (v := ?v3_4) rfl (by kernel_rfl) (by kernel_rfl) (by kernel_rfl) (fun _ _ _ h => h) (Or.inl ⟨by rfl, ?y3_4⟩) hS ?z3_4
    case y3_4 => intro w hSw; (try dsimp only at hSw); go_simp; (try with_reducible rfl)
    try simp only [Act.put, List.getElem_toArray, List.getElem_cons_succ, List.getElem_cons_zero, List.setIfInBounds_toArray, List.set_cons_zero, List.set_cons_succ]
    refine wpAnyH_take (i := 4) rfl (by kernel_rfl) (by kernel_rfl) (by kernel_rfl) (fun _ _ _ h => h) (yieldsIf_load_mid rfl 24 (.tmp 34) rfl g (o + s * 7) rfl x.list _ (fun w h => h.2.1) Try.underlying24 rfl x.infoL) hS ?_
    try simp only [Act.put, List.getElem_toArray, List.getElem_cons_succ, List.getElem_cons_zero, List.setIfInBounds_toArray, List.set_cons_zero, List.set_cons_succ]
    refine wpAnyH_take (i := 5) (v := ?v5_5) rfl (by kernel_rfl) (by kernel_rfl) (by kernel_rfl) (fun _ _ _ h => h) (Or.inl ⟨by rfl, ?y5_5⟩) hS ?z5_5
    case y5_5 => intro w hSw; (try dsimp only at hSw); go_simp; (try with_reducible rfl)
    try simp only [Act.put, List.getElem_toArray, List.getElem_cons_succ, List.getElem_cons_zero, List.setIfInBounds_toArray, List.set_cons_zero, List.set_cons_succ]
    refine wpAnyH_take (i := 6) (v := ?v6_6) rfl (by kernel_rfl) (by kernel_rfl) (by kernel_rfl) (fun _ _ _ h => h) (Or.inl ⟨by rfl, ?y6_6⟩) hS ?z6_6
    case y6_6 => intro w hSw; (try dsimp only at hSw); go_simp; (try with_reducible rfl)
    try simp only [Act.put, List.getElem_toArray, List.getElem_cons_succ, List.getElem_cons_zero, List.setIfInBounds_toArray, List.set_cons_zero, List.set_cons_succ]
    refine wpAnyH_take (i := 7) (v := ?v7_7) rfl (by kernel_rfl) (by kernel_rfl) (by kernel_rfl) (fun _ _ _ h => h) (Or.inl ⟨by rfl, ?y7_7⟩) hS ?z7_7
    case y7_7 => intro w hSw; have e := (hSw.1.1).cell (i := 1); simp only [List.getElem?_toArray, List.getElem?_cons_zero, List.getElem?_cons_succ] at e; clear hSw; go_simp; (try with_reducible rfl)
    try simp only [Act.put, List.getElem_toArray, List.getElem_cons_succ, List.getElem_cons_zero, List.setIfInBounds_toArray, List.set_cons_zero, List.set_cons_succ]
    refine wpAnyH_take (i := 8) (v := ?v8_8) rfl (by kernel_rfl) (by kernel_rfl) (by kernel_rfl) (fun _ _ _ h => h) (Or.inl ⟨by rfl, ?y8_8⟩) hS ?z8_8
    case y8_8 => intro w hSw; (try dsimp only at hSw); go_simp; (try with_reducible rfl)
    try simp only [Act.put, List.getElem_toArray, List.getElem_cons_succ, List.getElem_cons_zero, List.setIfInBounds_toArray, List.set_cons_zero, List.set_cons_succ]
    refine wpAnyH_take (i := 9) rfl (by kernel_rfl) (by kernel_rfl) (by kernel_rfl) (fun _ _ _ h => h) (yieldsIf_load_mid rfl 24 (.tmp 39) rfl g (o + d * 7) rfl y.list _ (fun w h => h.2.2.1) Try.underlying24 rfl y.infoL) hS ?_
    try simp only [Act.put, List.getElem_toArray, List.getElem_cons_succ, List.getElem_cons_zero, List.setIfInBounds_toArray, List.set_cons_zero, List.set_cons_succ]
    refine wpAnyH_take (i := 10) rfl (by kernel_rfl) (by kernel_rfl) (by kernel_rfl) (fun _ _ _ h => h) (yieldsIf_load_nb rfl 26 (.tmp 5) rfl (w.heap.size + 1) 26 c.list.toArray rfl (fun w h => h.1.2.1) _ Try.underlying26 rfl (by show _ = some 20; kernel_rfl)) hS ?_
    try simp only [Act.put, List.getElem_toArray, List.getElem_cons_succ, List.getElem_cons_zero, List.setIfInBounds_toArray, List.set_cons_zero, List.set_cons_succ]
    refine wpAnyH_ready (rs := [11, 16, 17]) (by kernel_rfl) (by simp) (AllReadyH.cons rfl (fun K hK => ?_) (AllReadyH.cons rfl (fun K hK => ?_) (AllReadyH.cons rfl (fun K hK => ?_) AllReadyH.nil)))
    · go_simp
      refine (HA.out _).mono ?_
      rintro en u1 ⟨rfl, hb⟩
      have HSu1 := Lib.hid (HSw3.out.call hb)
      clear HSw3 hb
      refine hK.out _ _ HSu1.out (fun hS => ?_)
      clear hK K
      try simp only [Act.put, List.getElem_toArray, List.getElem_cons_succ, List.getElem_cons_zero, List.setIfInBounds_toArray, List.set_cons_zero, List.set_cons_succ]
      refine wpAnyH_take (i := 12) (v := ?v12_9) rfl (by kernel_rfl) (by kernel_rfl) (by kernel_rfl) (fun _ _ _ h => h) (Or.inl ⟨by rfl, ?y12_9⟩) hS ?z12_9
      case y12_9 => intro w hSw; (try dsimp only at hSw); go_simp; (try with_reducible rfl)
      try simp only [Act.put, List.getElem_toArray, List.getElem_cons_succ, List.getElem_cons_zero, List.setIfInBounds_toArray, List.set_cons_zero, List.set_cons_succ]
      refine wpAnyH_take (i := 13) (v := ?v13_10) rfl (by kernel_rfl) (by kernel_rfl) (by kernel_rfl) (fun _ _ _ h => h) (Or.inl ⟨by rfl, ?y13_10⟩) hS ?z13_10
      case y13_10 => intro w hSw; (try dsimp only at hSw); go_simp; (try with_reducible rfl)
      try simp only [Act.put, List.getElem_toArray, List.getElem_cons_succ, List.getElem_cons_zero, List.setIfInBounds_toArray, List.set_cons_zero, List.set_cons_succ]
      refine wpAnyH_take (i := 14) (v := ?v14_11) rfl (by kernel_rfl) (by kernel_rfl) (by kernel_rfl) (fun _ _ _ h => h) (Or.inl ⟨by rfl, ?y14_11⟩) hS ?z14_11
      case y14_11 => intro w hSw; (try dsimp only at hSw); go_simp; (try with_reducible rfl)
      try simp only [Act.put, List.getElem_toArray, List.getElem_cons_succ, List.getElem_cons_zero, List.setIfInBounds_toArray, List.set_cons_zero, List.set_cons_succ]
      refine wpAnyH_take (i := 15) (v := ?v15_12) rfl (by kernel_rfl) (by kernel_rfl) (by kernel_rfl) (fun _ _ _ h => h) (Or.inl ⟨by rfl, ?y15_12⟩) hS ?z15_12
      case y15_12 => intro w hSw; (try dsimp only at hSw); go_simp; (try with_reducible rfl)
      try simp only [Act.put, List.getElem_toArray, List.getElem_cons_succ, List.getElem_cons_zero, List.setIfInBounds_toArray, List.set_cons_zero, List.set_cons_succ]
      refine wpAnyH_ready (rs := [16, 17]) (by kernel_rfl) (by simp) (AllReadyH.cons rfl (fun K hK => ?_) (AllReadyH.cons rfl (fun K hK => ?_) AllReadyH.nil))
      · go_simp
        change K _ (World.alloc u1 (.cells Val.zero.list.toArray 24))
        have HSu2 := Lib.hid (HSu1.out.alloc (.cells Val.zero.list.toArray 24))
        have H7u2 := Lib.hid (ValAt.new u1 Val.zero)
        have L7 := Lib.hid (Nat.succ_le_of_lt HSu1.out.1.2.1.lt)
        generalize hwn : World.alloc u1 _ = u2 at *
        clear hwn HSu1
        refine hK.out _ _ HSu2.out (fun hS => ?_)
        clear hK K
        try simp only [Act.put, List.getElem_toArray, List.getElem_cons_succ, List.getElem_cons_zero, List.setIfInBounds_toArray, List.set_cons_zero, List.set_cons_succ]
        refine wpAnyH_ready (rs := [17]) (by kernel_rfl) (by simp) (AllReadyH.cons rfl (fun K hK => ?_) AllReadyH.nil)
        · go_simp
          change K _ (World.alloc u2 (.cells Val.zero.list.toArray 24))
          have HSu3 := Lib.hid (HSu2.out.alloc (.cells Val.zero.list.toArray 24))
          have H8u3 := Lib.hid (ValAt.new u2 Val.zero)
          have L8 := Lib.hid (Nat.succ_le_of_lt HSu2.out.1.2.1.lt)
          have H7u3 := Lib.hid (H7u2.out.alloc (.cells Val.zero.list.toArray 24))
          have HN := Lib.hid (Nat.ne_of_lt H7u2.out.lt)
          generalize hwn : World.alloc u2 _ = u3 at *
          clear hwn HSu2 H7u2
          refine hK.out _ _ HSu3.out (fun hS => ?_)
          clear hK K
          try simp only [Act.put, List.getElem_toArray, List.getElem_cons_succ, List.getElem_cons_zero, List.setIfInBounds_toArray, List.set_cons_zero, List.set_cons_succ]
          refine wpAnyH_ready (rs := [18]) (by kernel_rfl) (by simp) (AllReadyH.cons rfl (fun K hK => ?_) AllReadyH.nil)
          refine step_store_nb 24 (.tmp 7) (.tmp 43) x.mv1.list.toArray rfl rfl rfl rfl H7u3.out x.mv1.info rfl x.mv1.oneA ?_
          have HSu3a := Lib.hid (HSu3.out.setRow x.mv1.list.toArray L7.out)
          have H7u3a : Hid (ValAt (World.setRow u3 u1.heap.size x.mv1.list.toArray) u1.heap.size x.mv1) := Nb.same H7u3.out
          have H8u3a : Hid (ValAt (World.setRow u3 u1.heap.size x.mv1.list.toArray) u2.heap.size Val.zero) := Nb.other H8u3.out (Ne.symm HN.out)
          generalize hwn : World.setRow u3 _ _ = u3a at *
          clear hwn HSu3 H7u3 H8u3
          refine hK.out _ _ HSu3a.out (fun hS => ?_)
          clear hK K
          try simp only [Act.put, List.getElem_toArray, List.getElem_cons_succ, List.getElem_cons_zero, List.setIfInBounds_toArray, List.set_cons_zero, List.set_cons_succ]
          refine wpAnyH_ready (rs := [19]) (by kernel_rfl) (by simp) (AllReadyH.cons rfl (fun K hK => ?_) AllReadyH.nil)
          refine step_store_nb 24 (.tmp 8) (.tmp 44) (x.mv2 y).list.toArray rfl rfl rfl rfl H8u3a.out (x.mv2 y).info rfl (x.mv2 y).oneA ?_
          have HSu3b := Lib.hid (HSu3a.out.setRow (x.mv2 y).list.toArray L8.out)
          have H8u3b : Hid (ValAt (World.setRow u3a u2.heap.size (x.mv2 y).list.toArray) u2.heap.size (x.mv2 y)) := Nb.same H8u3a.out
          have H7u3b : Hid (ValAt (World.setRow u3a u2.heap.size (x.mv2 y).list.toArray) u1.heap.size x.mv1) := Nb.other H7u3a.out HN.out
          generalize hwn : World.setRow u3a _ _ = u3b at *
          clear hwn HSu3a H7u3a H8u3a
          refine hK.out _ _ HSu3b.out (fun hS => ?_)
          clear hK K
          try simp only [Act.put, List.getElem_toArray, List.getElem_cons_succ, List.getElem_cons_zero, List.setIfInBounds_toArray, List.set_cons_zero, List.set_cons_succ]
          refine wpAnyH_take (i := 20) (v := ?v20_13) rfl (by kernel_rfl) (by kernel_rfl) (by kernel_rfl) (fun _ _ _ h => h) (Or.inl ⟨by rfl, ?y20_13⟩) hS ?z20_13
          case y20_13 => intro w hSw; (try dsimp only at hSw); go_simp; (try with_reducible rfl)
          try simp only [Act.put, List.getElem_toArray, List.getElem_cons_succ, List.getElem_cons_zero, List.setIfInBounds_toArray, List.set_cons_zero, List.set_cons_succ]
          refine wpAnyH_done (by kernel_rfl) ?_ _
          go_wp2_with fail
          go_meet
          exact ⟨_, _, rfl, rfl, rfl, HSu3b, H7u3b, H8u3b⟩
      · go_simp
        change K _ (World.alloc u1 (.cells Val.zero.list.toArray 24))
        have HSu4 := Lib.hid (HSu1.out.alloc (.cells Val.zero.list.toArray 24))
        have H8u4 := Lib.hid (ValAt.new u1 Val.zero)
        have L8 := Lib.hid (Nat.succ_le_of_lt HSu1.out.1.2.1.lt)
        generalize hwn : World.alloc u1 _ = u4 at *
        clear hwn HSu1
        refine hK.out _ _ HSu4.out (fun hS => ?_)
        clear hK K
        try simp only [Act.put, List.getElem_toArray, List.getElem_cons_succ, List.getElem_cons_zero, List.setIfInBounds_toArray, List.set_cons_zero, List.set_cons_succ]
        refine wpAnyH_ready (rs := [16]) (by kernel_rfl) (by simp) (AllReadyH.cons rfl (fun K hK => ?_) AllReadyH.nil)
        · go_simp
          change K _ (World.alloc u4 (.cells Val.zero.list.toArray 24))
          have HSu5 := Lib.hid (HSu4.out.alloc (.cells Val.zero.list.toArray 24))
          have H7u5 := Lib.hid (ValAt.new u4 Val.zero)
          have L7 := Lib.hid (Nat.succ_le_of_lt HSu4.out.1.2.1.lt)
          have H8u5 := Lib.hid (H8u4.out.alloc (.cells Val.zero.list.toArray 24))
          have HN := Lib.hid (Nat.ne_of_lt H8u4.out.lt)
          generalize hwn : World.alloc u4 _ = u5 at *
          clear hwn HSu4 H8u4
          refine hK.out _ _ HSu5.out (fun hS => ?_)
          clear hK K
          try simp only [Act.put, List.getElem_toArray, List.getElem_cons_succ, List.getElem_cons_zero, List.setIfInBounds_toArray, List.set_cons_zero, List.set_cons_succ]
          refine wpAnyH_ready (rs := [18]) (by kernel_rfl) (by simp) (AllReadyH.cons rfl (fun K hK => ?_) AllReadyH.nil)
          refine step_store_nb 24 (.tmp 7) (.tmp 43) x.mv1.list.toArray rfl rfl rfl rfl H7u5.out x.mv1.info rfl x.mv1.oneA ?_
          have HSu5a := Lib.hid (HSu5.out.setRow x.mv1.list.toArray L7.out)
          have H7u5a : Hid (ValAt (World.setRow u5 u4.heap.size x.mv1.list.toArray) u4.heap.size x.mv1) := Nb.same H7u5.out
          have H8u5a : Hid (ValAt (World.setRow u5 u4.heap.size x.mv1.list.toArray) u1.heap.size Val.zero) := Nb.other H8u5.out (Ne.symm (Ne.symm HN.out))
          generalize hwn : World.setRow u5 _ _ = u5a at *
          clear hwn HSu5 H7u5 H8u5
          refine hK.out _ _ HSu5a.out (fun hS => ?_)
          clear hK K
          try simp only [Act.put, List.getElem_toArray, List.getElem_cons_succ, List.getElem_cons_zero, List.setIfInBounds_toArray, List.set_cons_zero, List.set_cons_succ]
          refine wpAnyH_ready (rs := [19]) (by kernel_rfl) (by simp) (AllReadyH.cons rfl (fun K hK => ?_) AllReadyH.nil)
          refine step_store_nb 24 (.tmp 8) (.tmp 44) (x.mv2 y).list.toArray rfl rfl rfl rfl H8u5a.out (x.mv2 y).info rfl (x.mv2 y).oneA ?_
          have HSu5b := Lib.hid (HSu5a.out.setRow (x.mv2 y).list.toArray L8.out)
          have H8u5b : Hid (ValAt (World.setRow u5a u1.heap.size (x.mv2 y).list.toArray) u1.heap.size (x.mv2 y)) := Nb.same H8u5a.out
          have H7u5b : Hid (ValAt (World.setRow u5a u1.heap.size (x.mv2 y).list.toArray) u4.heap.size x.mv1) := Nb.other H7u5a.out (Ne.symm HN.out)
          generalize hwn : World.setRow u5a _ _ = u5b at *
          clear hwn HSu5a H7u5a H8u5a
          refine hK.out _ _ HSu5b.out (fun hS => ?_)
          clear hK K
          try simp only [Act.put, List.getElem_toArray, List.getElem_cons_succ, List.getElem_cons_zero, List.setIfInBounds_toArray, List.set_cons_zero, List.set_cons_succ]
          refine wpAnyH_take (i := 20) (v := ?v20_14) rfl (by kernel_rfl) (by kernel_rfl) (by kernel_rfl) (fun _ _ _ h => h) (Or.inl ⟨by rfl, ?y20_14⟩) hS ?z20_14
          case y20_14 => intro w hSw; (try dsimp only at hSw); go_simp; (try with_reducible rfl)
          try simp only [Act.put, List.getElem_toArray, List.getElem_cons_succ, List.getElem_cons_zero, List.setIfInBounds_toArray, List.set_cons_zero, List.set_cons_succ]
          refine wpAnyH_done (by kernel_rfl) ?_ _
          go_wp2_with fail
          go_meet
          exact ⟨_, _, rfl, rfl, rfl, HSu5b, H7u5b, H8u5b⟩
    · go_simp
      change K _ (World.alloc w3 (.cells Val.zero.list.toArray 24))
      have HSu6 := Lib.hid (HSw3.out.alloc (.cells Val.zero.list.toArray 24))
      have H7u6 := Lib.hid (ValAt.new w3 Val.zero)
      have L7 := Lib.hid (Nat.succ_le_of_lt HSw3.out.1.2.1.lt)
      generalize hwn : World.alloc w3 _ = u6 at *
      clear hwn HSw3
      refine hK.out _ _ HSu6.out (fun hS => ?_)
      clear hK K
      try simp only [Act.put, List.getElem_toArray, List.getElem_cons_succ, List.getElem_cons_zero, List.setIfInBounds_toArray, List.set_cons_zero, List.set_cons_succ]
      refine wpAnyH_ready (rs := [11, 17]) (by kernel_rfl) (by simp) (AllReadyH.cons rfl (fun K hK => ?_) (AllReadyH.cons rfl (fun K hK => ?_) AllReadyH.nil))
      · go_simp
        refine (HA.out _).mono ?_
        rintro en u7 ⟨rfl, hb⟩
        have HSu7 := Lib.hid (HSu6.out.call hb)
        have H7u7 := Lib.hid (H7u6.out.call hb)
        clear HSu6 hb H7u6
        refine hK.out _ _ HSu7.out (fun hS => ?_)
        clear hK K
        try simp only [Act.put, List.getElem_toArray, List.getElem_cons_succ, List.getElem_cons_zero, List.setIfInBounds_toArray, List.set_cons_zero, List.set_cons_succ]
        refine wpAnyH_take (i := 12) (v := ?v12_15) rfl (by kernel_rfl) (by kernel_rfl) (by kernel_rfl) (fun _ _ _ h => h) (Or.inl ⟨by rfl, ?y12_15⟩) hS ?z12_15
        case y12_15 => intro w hSw; (try dsimp only at hSw); go_simp; (try with_reducible rfl)
        try simp only [Act.put, List.getElem_toArray, List.getElem_cons_succ, List.getElem_cons_zero, List.setIfInBounds_toArray, List.set_cons_zero, List.set_cons_succ]
        refine wpAnyH_take (i := 13) (v := ?v13_16) rfl (by kernel_rfl) (by kernel_rfl) (by kernel_rfl) (fun _ _ _ h => h) (Or.inl ⟨by rfl, ?y13_16⟩) hS ?z13_16
        case y13_16 => intro w hSw; (try dsimp only at hSw); go_simp; (try with_reducible rfl)
        try simp only [Act.put, List.getElem_toArray, List.getElem_cons_succ, List.getElem_cons_zero, List.setIfInBounds_toArray, List.set_cons_zero, List.set_cons_succ]
        refine wpAnyH_take (i := 14) (v := ?v14_17) rfl (by kernel_rfl) (by kernel_rfl) (by kernel_rfl) (fun _ _ _ h => h) (Or.inl ⟨by rfl, ?y14_17⟩) hS ?z14_17
        case y14_17 => intro w hSw; (try dsimp only at hSw); go_simp; (try with_reducible rfl)
        try simp only [Act.put, List.getElem_toArray, List.getElem_cons_succ, List.getElem_cons_zero, List.setIfInBounds_toArray, List.set_cons_zero, List.set_cons_succ]
        refine wpAnyH_take (i := 15) (v := ?v15_18) rfl (by kernel_rfl) (by kernel_rfl) (by kernel_rfl) (fun _ _ _ h => h) (Or.inl ⟨by rfl, ?y15_18⟩) hS ?z15_18
        case y15_18 => intro w hSw; (try dsimp only at hSw); go_simp; (try with_reducible rfl)
        try simp only [Act.put, List.getElem_toArray, List.getElem_cons_succ, List.getElem_cons_zero, List.setIfInBounds_toArray, List.set_cons_zero, List.set_cons_succ]
        refine wpAnyH_ready (rs := [17]) (by kernel_rfl) (by simp) (AllReadyH.cons rfl (fun K hK => ?_) AllReadyH.nil)
        · go_simp
          change K _ (World.alloc u7 (.cells Val.zero.list.toArray 24))
          have HSu8 := Lib.hid (HSu7.out.alloc (.cells Val.zero.list.toArray 24))
          have H8u8 := Lib.hid (ValAt.new u7 Val.zero)
          have L8 := Lib.hid (Nat.succ_le_of_lt HSu7.out.1.2.1.lt)
          have H7u8 := Lib.hid (H7u7.out.alloc (.cells Val.zero.list.toArray 24))
          have HN := Lib.hid (Nat.ne_of_lt H7u7.out.lt)
          generalize hwn : World.alloc u7 _ = u8 at *
          clear hwn HSu7 H7u7
          refine hK.out _ _ HSu8.out (fun hS => ?_)
          clear hK K
          try simp only [Act.put, List.getElem_toArray, List.getElem_cons_succ, List.getElem_cons_zero, List.setIfInBounds_toArray, List.set_cons_zero, List.set_cons_succ]
          refine wpAnyH_ready (rs := [18]) (by kernel_rfl) (by simp) (AllReadyH.cons rfl (fun K hK => ?_) AllReadyH.nil)
          refine step_store_nb 24 (.tmp 7) (.tmp 43) x.mv1.list.toArray rfl rfl rfl rfl H7u8.out x.mv1.info rfl x.mv1.oneA ?_
          have HSu8a := Lib.hid (HSu8.out.setRow x.mv1.list.toArray L7.out)
          have H7u8a : Hid (ValAt (World.setRow u8 w3.heap.size x.mv1.list.toArray) w3.heap.size x.mv1) := Nb.same H7u8.out
          have H8u8a : Hid (ValAt (World.setRow u8 w3.heap.size x.mv1.list.toArray) u7.heap.size Val.zero) := Nb.other H8u8.out (Ne.symm HN.out)
          generalize hwn : World.setRow u8 _ _ = u8a at *
          clear hwn HSu8 H7u8 H8u8
          refine hK.out _ _ HSu8a.out (fun hS => ?_)
          clear hK K
          try simp only [Act.put, List.getElem_toArray, List.getElem_cons_succ, List.getElem_cons_zero, List.setIfInBounds_toArray, List.set_cons_zero, List.set_cons_succ]
          refine wpAnyH_ready (rs := [19]) (by kernel_rfl) (by simp) (AllReadyH.cons rfl (fun K hK => ?_) AllReadyH.nil)
          refine step_store_nb 24 (.tmp 8) (.tmp 44) (x.mv2 y).list.toArray rfl rfl rfl rfl H8u8a.out (x.mv2 y).info rfl (x.mv2 y).oneA ?_
          have HSu8b := Lib.hid (HSu8a.out.setRow (x.mv2 y).list.toArray L8.out)
          have H8u8b : Hid (ValAt (World.setRow u8a u7.heap.size (x.mv2 y).list.toArray) u7.heap.size (x.mv2 y)) := Nb.same H8u8a.out
          have H7u8b : Hid (ValAt (World.setRow u8a u7.heap.size (x.mv2 y).list.toArray) w3.heap.size x.mv1) := Nb.other H7u8a.out HN.out
          generalize hwn : World.setRow u8a _ _ = u8b at *
          clear hwn HSu8a H7u8a H8u8a
          refine hK.out _ _ HSu8b.out (fun hS => ?_)
          clear hK K
          try simp only [Act.put, List.getElem_toArray, List.getElem_cons_succ, List.getElem_cons_zero, List.setIfInBounds_toArray, List.set_cons_zero, List.set_cons_succ]
          refine wpAnyH_take (i := 20) (v := ?v20_19) rfl (by kernel_rfl) (by kernel_rfl) (by kernel_rfl) (fun _ _ _ h => h) (Or.inl ⟨by rfl, ?y20_19⟩) hS ?z20_19
          case y20_19 => intro w hSw; (try dsimp only at hSw); go_simp; (try with_reducible rfl)
          try simp only [Act.put, List.getElem_toArray, List.getElem_cons_succ, List.getElem_cons_zero, List.setIfInBounds_toArray, List.set_cons_zero, List.set_cons_succ]
          refine wpAnyH_done (by kernel_rfl) ?_ _
          go_wp2_with fail
          go_meet
          exact ⟨_, _, rfl, rfl, rfl, HSu8b, H7u8b, H8u8b⟩
      · go_simp
        change K _ (World.alloc u6 (.cells Val.zero.list.toArray 24))
        have HSu9 := Lib.hid (HSu6.out.alloc (.cells Val.zero.list.toArray 24))
        have H8u9 := Lib.hid (ValAt.new u6 Val.zero)
        have L8 := Lib.hid (Nat.succ_le_of_lt HSu6.out.1.2.1.lt)
        have H7u9 := Lib.hid (H7u6.out.alloc (.cells Val.zero.list.toArray 24))
        have HN := Lib.hid (Nat.ne_of_lt H7u6.out.lt)
        generalize hwn : World.alloc u6 _ = u9 at *
        clear hwn HSu6 H7u6
        refine hK.out _ _ HSu9.out (fun hS => ?_)
        clear hK K
        try simp only [Act.put, List.getElem_toArray, List.getElem_cons_succ, List.getElem_cons_zero, List.setIfInBounds_toArray, List.set_cons_zero, List.set_cons_succ]
        refine wpAnyH_ready (rs := [11]) (by kernel_rfl) (by simp) (AllReadyH.cons rfl (fun K hK => ?_) AllReadyH.nil)
        · go_simp
          refine (HA.out _).mono ?_
          rintro en u10 ⟨rfl, hb⟩
          have HSu10 := Lib.hid (HSu9.out.call hb)
          have H7u10 := Lib.hid (H7u9.out.call hb)
          have H8u10 := Lib.hid (H8u9.out.call hb)
          clear HSu9 hb H7u9 H8u9
          refine hK.out _ _ HSu10.out (fun hS => ?_)
          clear hK K
          try simp only [Act.put, List.getElem_toArray, List.getElem_cons_succ, List.getElem_cons_zero, List.setIfInBounds_toArray, List.set_cons_zero, List.set_cons_succ]
          refine wpAnyH_take (i := 12) (v := ?v12_20) rfl (by kernel_rfl) (by kernel_rfl) (by kernel_rfl) (fun _ _ _ h => h) (Or.inl ⟨by rfl, ?y12_20⟩) hS ?z12_20
          case y12_20 => intro w hSw; (try dsimp only at hSw); go_simp; (try with_reducible rfl)
          try simp only [Act.put, List.getElem_toArray, List.getElem_cons_succ, List.getElem_cons_zero, List.setIfInBounds_toArray, List.set_cons_zero, List.set_cons_succ]
          refine wpAnyH_take (i := 13) (v := ?v13_21) rfl (by kernel_rfl) (by kernel_rfl) (by kernel_rfl) (fun _ _ _ h => h) (Or.inl ⟨by rfl, ?y13_21⟩) hS ?z13_21
          case y13_21 => intro w hSw; (try dsimp only at hSw); go_simp; (try with_reducible rfl)
          try simp only [Act.put, List.getElem_toArray, List.getElem_cons_succ, List.getElem_cons_zero, List.setIfInBounds_toArray, List.set_cons_zero, List.set_cons_succ]
          refine wpAnyH_take (i := 14) (v := ?v14_22) rfl (by kernel_rfl) (by kernel_rfl) (by kernel_rfl) (fun _ _ _ h => h) (Or.inl ⟨by rfl, ?y14_22⟩) hS ?z14_22
          case y14_22 => intro w hSw; (try dsimp only at hSw); go_simp; (try with_reducible rfl)
          try simp only [Act.put, List.getElem_toArray, List.getElem_cons_succ, List.getElem_cons_zero, List.setIfInBounds_toArray, List.set_cons_zero, List.set_cons_succ]
          refine wpAnyH_take (i := 15) (v := ?v15_23) rfl (by kernel_rfl) (by kernel_rfl) (by kernel_rfl) (fun _ _ _ h => h) (Or.inl ⟨by rfl, ?y15_23⟩) hS ?z15_23
          case y15_23 => intro w hSw; (try dsimp only at hSw); go_simp; (try with_reducible rfl)
          try simp only [Act.put, List.getElem_toArray, List.getElem_cons_succ, List.getElem_cons_zero, List.setIfInBounds_toArray, List.set_cons_zero, List.set_cons_succ]
          refine wpAnyH_ready (rs := [18]) (by kernel_rfl) (by simp) (AllReadyH.cons rfl (fun K hK => ?_) AllReadyH.nil)
          refine step_store_nb 24 (.tmp 7) (.tmp 43) x.mv1.list.toArray rfl rfl rfl rfl H7u10.out x.mv1.info rfl x.mv1.oneA ?_
          have HSu10a := Lib.hid (HSu10.out.setRow x.mv1.list.toArray L7.out)
          have H7u10a : Hid (ValAt (World.setRow u10 w3.heap.size x.mv1.list.toArray) w3.heap.size x.mv1) := Nb.same H7u10.out
          have H8u10a : Hid (ValAt (World.setRow u10 w3.heap.size x.mv1.list.toArray) u6.heap.size Val.zero) := Nb.other H8u10.out (Ne.symm HN.out)
          generalize hwn : World.setRow u10 _ _ = u10a at *
          clear hwn HSu10 H7u10 H8u10
          refine hK.out _ _ HSu10a.out (fun hS => ?_)
          clear hK K
          try simp only [Act.put, List.getElem_toArray, List.getElem_cons_succ, List.getElem_cons_zero, List.setIfInBounds_toArray, List.set_cons_zero, List.set_cons_succ]
          refine wpAnyH_ready (rs := [19]) (by kernel_rfl) (by simp) (AllReadyH.cons rfl (fun K hK => ?_) AllReadyH.nil)
          refine step_store_nb 24 (.tmp 8) (.tmp 44) (x.mv2 y).list.toArray rfl rfl rfl rfl H8u10a.out (x.mv2 y).info rfl (x.mv2 y).oneA ?_
          have HSu10b := Lib.hid (HSu10a.out.setRow (x.mv2 y).list.toArray L8.out)
          have H8u10b : Hid (ValAt (World.setRow u10a u6.heap.size (x.mv2 y).list.toArray) u6.heap.size (x.mv2 y)) := Nb.same H8u10a.out
          have H7u10b : Hid (ValAt (World.setRow u10a u6.heap.size (x.mv2 y).list.toArray) w3.heap.size x.mv1) := Nb.other H7u10a.out HN.out
          generalize hwn : World.setRow u10a _ _ = u10b at *
          clear hwn HSu10a H7u10a H8u10a
          refine hK.out _ _ HSu10b.out (fun hS => ?_)
          clear hK K
          try simp only [Act.put, List.getElem_toArray, List.getElem_cons_succ, List.getElem_cons_zero, List.setIfInBounds_toArray, List.set_cons_zero, List.set_cons_succ]
          refine wpAnyH_take (i := 20) (v := ?v20_24) rfl (by kernel_rfl) (by kernel_rfl) (by kernel_rfl) (fun _ _ _ h => h) (Or.inl ⟨by rfl, ?y20_24⟩) hS ?z20_24
          case y20_24 => intro w hSw; (try dsimp only at hSw); go_simp; (try with_reducible rfl)
          try simp only [Act.put, List.getElem_toArray, List.getElem_cons_succ, List.getElem_cons_zero, List.setIfInBounds_toArray, List.set_cons_zero, List.set_cons_succ]
          refine wpAnyH_done (by kernel_rfl) ?_ _
          go_wp2_with fail
          go_meet
          exact ⟨_, _, rfl, rfl, rfl, HSu10b, H7u10b, H8u10b⟩
    · go_simp
      change K _ (World.alloc w3 (.cells Val.zero.list.toArray 24))
      have HSu11 := Lib.hid (HSw3.out.alloc (.cells Val.zero.list.toArray 24))
      have H8u11 := Lib.hid (ValAt.new w3 Val.zero)
      have L8 := Lib.hid (Nat.succ_le_of_lt HSw3.out.1.2.1.lt)
      generalize hwn : World.alloc w3 _ = u11 at *
      clear hwn HSw3
      refine hK.out _ _ HSu11.out (fun hS => ?_)
      clear hK K
      try simp only [Act.put, List.getElem_toArray, List.getElem_cons_succ, List.getElem_cons_zero, List.setIfInBounds_toArray, List.set_cons_zero, List.set_cons_succ]
      refine wpAnyH_ready (rs := [11, 16]) (by kernel_rfl) (by simp) (AllReadyH.cons rfl (fun K hK => ?_) (AllReadyH.cons rfl (fun K hK => ?_) AllReadyH.nil))
      · go_simp
        refine (HA.out _).mono ?_
        rintro en u12 ⟨rfl, hb⟩
        have HSu12 := Lib.hid (HSu11.out.call hb)
        have H8u12 := Lib.hid (H8u11.out.call hb)
        clear HSu11 hb H8u11
        refine hK.out _ _ HSu12.out (fun hS => ?_)
        clear hK K
        try simp only [Act.put, List.getElem_toArray, List.getElem_cons_succ, List.getElem_cons_zero, List.setIfInBounds_toArray, List.set_cons_zero, List.set_cons_succ]
        refine wpAnyH_take (i := 12) (v := ?v12_25) rfl (by kernel_rfl) (by kernel_rfl) (by kernel_rfl) (fun _ _ _ h => h) (Or.inl ⟨by rfl, ?y12_25⟩) hS ?z12_25
        case y12_25 => intro w hSw; (try dsimp only at hSw); go_simp; (try with_reducible rfl)
        try simp only [Act.put, List.getElem_toArray, List.getElem_cons_succ, List.getElem_cons_zero, List.setIfInBounds_toArray, List.set_cons_zero, List.set_cons_succ]
        refine wpAnyH_take (i := 13) (v := ?v13_26) rfl (by kernel_rfl) (by kernel_rfl) (by kernel_rfl) (fun _ _ _ h => h) (Or.inl ⟨by rfl, ?y13_26⟩) hS ?z13_26
        case y13_26 => intro w hSw; (try dsimp only at hSw); go_simp; (try with_reducible rfl)
        try simp only [Act.put, List.getElem_toArray, List.getElem_cons_succ, List.getElem_cons_zero, List.setIfInBounds_toArray, List.set_cons_zero, List.set_cons_succ]
        refine wpAnyH_take (i := 14) (v := ?v14_27) rfl (by kernel_rfl) (by kernel_rfl) (by kernel_rfl) (fun _ _ _ h => h) (Or.inl ⟨by rfl, ?y14_27⟩) hS ?z14_27
        case y14_27 => intro w hSw; (try dsimp only at hSw); go_simp; (try with_reducible rfl)
        try simp only [Act.put, List.getElem_toArray, List.getElem_cons_succ, List.getElem_cons_zero, List.setIfInBounds_toArray, List.set_cons_zero, List.set_cons_succ]
        refine wpAnyH_take (i := 15) (v := ?v15_28) rfl (by kernel_rfl) (by kernel_rfl) (by kernel_rfl) (fun _ _ _ h => h) (Or.inl ⟨by rfl, ?y15_28⟩) hS ?z15_28
        case y15_28 => intro w hSw; (try dsimp only at hSw); go_simp; (try with_reducible rfl)
        try simp only [Act.put, List.getElem_toArray, List.getElem_cons_succ, List.getElem_cons_zero, List.setIfInBounds_toArray, List.set_cons_zero, List.set_cons_succ]
        refine wpAnyH_ready (rs := [16]) (by kernel_rfl) (by simp) (AllReadyH.cons rfl (fun K hK => ?_) AllReadyH.nil)
        · go_simp
          change K _ (World.alloc u12 (.cells Val.zero.list.toArray 24))
          have HSu13 := Lib.hid (HSu12.out.alloc (.cells Val.zero.list.toArray 24))
          have H7u13 := Lib.hid (ValAt.new u12 Val.zero)
          have L7 := Lib.hid (Nat.succ_le_of_lt HSu12.out.1.2.1.lt)
          have H8u13 := Lib.hid (H8u12.out.alloc (.cells Val.zero.list.toArray 24))
          have HN := Lib.hid (Nat.ne_of_lt H8u12.out.lt)
          generalize hwn : World.alloc u12 _ = u13 at *
          clear hwn HSu12 H8u12
          refine hK.out _ _ HSu13.out (fun hS => ?_)
          clear hK K
          try simp only [Act.put, List.getElem_toArray, List.getElem_cons_succ, List.getElem_cons_zero, List.setIfInBounds_toArray, List.set_cons_zero, List.set_cons_succ]
          refine wpAnyH_ready (rs := [18]) (by kernel_rfl) (by simp) (AllReadyH.cons rfl (fun K hK => ?_) AllReadyH.nil)
          refine step_store_nb 24 (.tmp 7) (.tmp 43) x.mv1.list.toArray rfl rfl rfl rfl H7u13.out x.mv1.info rfl x.mv1.oneA ?_
          have HSu13a := Lib.hid (HSu13.out.setRow x.mv1.list.toArray L7.out)
          have H7u13a : Hid (ValAt (World.setRow u13 u12.heap.size x.mv1.list.toArray) u12.heap.size x.mv1) := Nb.same H7u13.out
          have H8u13a : Hid (ValAt (World.setRow u13 u12.heap.size x.mv1.list.toArray) w3.heap.size Val.zero) := Nb.other H8u13.out (Ne.symm (Ne.symm HN.out))
          generalize hwn : World.setRow u13 _ _ = u13a at *
          clear hwn HSu13 H7u13 H8u13
          refine hK.out _ _ HSu13a.out (fun hS => ?_)
          clear hK K
          try simp only [Act.put, List.getElem_toArray, List.getElem_cons_succ, List.getElem_cons_zero, List.setIfInBounds_toArray, List.set_cons_zero, List.set_cons_succ]
          refine wpAnyH_ready (rs := [19]) (by kernel_rfl) (by simp) (AllReadyH.cons rfl (fun K hK => ?_) AllReadyH.nil)
          refine step_store_nb 24 (.tmp 8) (.tmp 44) (x.mv2 y).list.toArray rfl rfl rfl rfl H8u13a.out (x.mv2 y).info rfl (x.mv2 y).oneA ?_
          have HSu13b := Lib.hid (HSu13a.out.setRow (x.mv2 y).list.toArray L8.out)
          have H8u13b : Hid (ValAt (World.setRow u13a w3.heap.size (x.mv2 y).list.toArray) w3.heap.size (x.mv2 y)) := Nb.same H8u13a.out
          have H7u13b : Hid (ValAt (World.setRow u13a w3.heap.size (x.mv2 y).list.toArray) u12.heap.size x.mv1) := Nb.other H7u13a.out (Ne.symm HN.out)
          generalize hwn : World.setRow u13a _ _ = u13b at *
          clear hwn HSu13a H7u13a H8u13a
          refine hK.out _ _ HSu13b.out (fun hS => ?_)
          clear hK K
          try simp only [Act.put, List.getElem_toArray, List.getElem_cons_succ, List.getElem_cons_zero, List.setIfInBounds_toArray, List.set_cons_zero, List.set_cons_succ]
          refine wpAnyH_take (i := 20) (v := ?v20_29) rfl (by kernel_rfl) (by kernel_rfl) (by kernel_rfl) (fun _ _ _ h => h) (Or.inl ⟨by rfl, ?y20_29⟩) hS ?z20_29
          case y20_29 => intro w hSw; (try dsimp only at hSw); go_simp; (try with_reducible rfl)
          try simp only [Act.put, List.getElem_toArray, List.getElem_cons_succ, List.getElem_cons_zero, List.setIfInBounds_toArray, List.set_cons_zero, List.set_cons_succ]
          refine wpAnyH_done (by kernel_rfl) ?_ _
          go_wp2_with fail
          go_meet
          exact ⟨_, _, rfl, rfl, rfl, HSu13b, H7u13b, H8u13b⟩
      · go_simp
        change K _ (World.alloc u11 (.cells Val.zero.list.toArray 24))
        have HSu14 := Lib.hid (HSu11.out.alloc (.cells Val.zero.list.toArray 24))
        have H7u14 := Lib.hid (ValAt.new u11 Val.zero)
        have L7 := Lib.hid (Nat.succ_le_of_lt HSu11.out.1.2.1.lt)
        have H8u14 := Lib.hid (H8u11.out.alloc (.cells Val.zero.list.toArray 24))
        have HN := Lib.hid (Nat.ne_of_lt H8u11.out.lt)
        generalize hwn : World.alloc u11 _ = u14 at *
        clear hwn HSu11 H8u11
        refine hK.out _ _ HSu14.out (fun hS => ?_)
        clear hK K
        try simp only [Act.put, List.getElem_toArray, List.getElem_cons_succ, List.getElem_cons_zero, List.setIfInBounds_toArray, List.set_cons_zero, List.set_cons_succ]
        refine wpAnyH_ready (rs := [11]) (by kernel_rfl) (by simp) (AllReadyH.cons rfl (fun K hK => ?_) AllReadyH.nil)
        · go_simp
          refine (HA.out _).mono ?_
          rintro en u15 ⟨rfl, hb⟩
          have HSu15 := Lib.hid (HSu14.out.call hb)
          have H8u15 := Lib.hid (H8u14.out.call hb)
          have H7u15 := Lib.hid (H7u14.out.call hb)
          clear HSu14 hb H8u14 H7u14
          refine hK.out _ _ HSu15.out (fun hS => ?_)
          clear hK K
          try simp only [Act.put, List.getElem_toArray, List.getElem_cons_succ, List.getElem_cons_zero, List.setIfInBounds_toArray, List.set_cons_zero, List.set_cons_succ]
          refine wpAnyH_take (i := 12) (v := ?v12_30) rfl (by kernel_rfl) (by kernel_rfl) (by kernel_rfl) (fun _ _ _ h => h) (Or.inl ⟨by rfl, ?y12_30⟩) hS ?z12_30
          case y12_30 => intro w hSw; (try dsimp only at hSw); go_simp; (try with_reducible rfl)
          try simp only [Act.put, List.getElem_toArray, List.getElem_cons_succ, List.getElem_cons_zero, List.setIfInBounds_toArray, List.set_cons_zero, List.set_cons_succ]
          refine wpAnyH_take (i := 13) (v := ?v13_31) rfl (by kernel_rfl) (by kernel_rfl) (by kernel_rfl) (fun _ _ _ h => h) (Or.inl ⟨by rfl, ?y13_31⟩) hS ?z13_31
          case y13_31 => intro w hSw; (try dsimp only at hSw); go_simp; (try with_reducible rfl)
          try simp only [Act.put, List.getElem_toArray, List.getElem_cons_succ, List.getElem_cons_zero, List.setIfInBounds_toArray, List.set_cons_zero, List.set_cons_succ]
          refine wpAnyH_take (i := 14) (v := ?v14_32) rfl (by kernel_rfl) (by kernel_rfl) (by kernel_rfl) (fun _ _ _ h => h) (Or.inl ⟨by rfl, ?y14_32⟩) hS ?z14_32
          case y14_32 => intro w hSw; (try dsimp only at hSw); go_simp; (try with_reducible rfl)
          try simp only [Act.put, List.getElem_toArray, List.getElem_cons_succ, List.getElem_cons_zero, List.setIfInBounds_toArray, List.set_cons_zero, List.set_cons_succ]
          refine wpAnyH_take (i := 15) (v := ?v15_33) rfl (by kernel_rfl) (by kernel_rfl) (by kernel_rfl) (fun _ _ _ h => h) (Or.inl ⟨by rfl, ?y15_33⟩) hS ?z15_33
          case y15_33 => intro w hSw; (try dsimp only at hSw); go_simp; (try with_reducible rfl)
          try simp only [Act.put, List.getElem_toArray, List.getElem_cons_succ, List.getElem_cons_zero, List.setIfInBounds_toArray, List.set_cons_zero, List.set_cons_succ]
          refine wpAnyH_ready (rs := [18]) (by kernel_rfl) (by simp) (AllReadyH.cons rfl (fun K hK => ?_) AllReadyH.nil)
          refine step_store_nb 24 (.tmp 7) (.tmp 43) x.mv1.list.toArray rfl rfl rfl rfl H7u15.out x.mv1.info rfl x.mv1.oneA ?_
          have HSu15a := Lib.hid (HSu15.out.setRow x.mv1.list.toArray L7.out)
          have H7u15a : Hid (ValAt (World.setRow u15 u11.heap.size x.mv1.list.toArray) u11.heap.size x.mv1) := Nb.same H7u15.out
          have H8u15a : Hid (ValAt (World.setRow u15 u11.heap.size x.mv1.list.toArray) w3.heap.size Val.zero) := Nb.other H8u15.out (Ne.symm (Ne.symm HN.out))
          generalize hwn : World.setRow u15 _ _ = u15a at *
          clear hwn HSu15 H7u15 H8u15
          refine hK.out _ _ HSu15a.out (fun hS => ?_)
          clear hK K
          try simp only [Act.put, List.getElem_toArray, List.getElem_cons_succ, List.getElem_cons_zero, List.setIfInBounds_toArray, List.set_cons_zero, List.set_cons_succ]
          refine wpAnyH_ready (rs := [19]) (by kernel_rfl) (by simp) (AllReadyH.cons rfl (fun K hK => ?_) AllReadyH.nil)
          refine step_store_nb 24 (.tmp 8) (.tmp 44) (x.mv2 y).list.toArray rfl rfl rfl rfl H8u15a.out (x.mv2 y).info rfl (x.mv2 y).oneA ?_
          have HSu15b := Lib.hid (HSu15a.out.setRow (x.mv2 y).list.toArray L8.out)
          have H8u15b : Hid (ValAt (World.setRow u15a w3.heap.size (x.mv2 y).list.toArray) w3.heap.size (x.mv2 y)) := Nb.same H8u15a.out
          have H7u15b : Hid (ValAt (World.setRow u15a w3.heap.size (x.mv2 y).list.toArray) u11.heap.size x.mv1) := Nb.other H7u15a.out (Ne.symm HN.out)
          generalize hwn : World.setRow u15a _ _ = u15b at *
          clear hwn HSu15a H7u15a H8u15a
          refine hK.out _ _ HSu15b.out (fun hS => ?_)
          clear hK K
          try simp only [Act.put, List.getElem_toArray, List.getElem_cons_succ, List.getElem_cons_zero, List.setIfInBounds_toArray, List.set_cons_zero, List.set_cons_succ]
          refine wpAnyH_take (i := 20) (v := ?v20_34) rfl (by kernel_rfl) (by kernel_rfl) (by kernel_rfl) (fun _ _ _ h => h) (Or.inl ⟨by rfl, ?y20_34⟩) hS ?z20_34
          case y20_34 => intro w hSw; (try dsimp only at hSw); go_simp; (try with_reducible rfl)
          try simp only [Act.put, List.getElem_toArray, List.getElem_cons_succ, List.getElem_cons_zero, List.setIfInBounds_toArray, List.set_cons_zero, List.set_cons_succ]
          refine wpAnyH_done (by kernel_rfl) ?_ _
          go_wp2_with fail
          go_meet
          exact ⟨_, _, rfl, rfl, rfl, HSu15b, H7u15b, H8u15b⟩
  case rest =>
    obtain ⟨b7, b8, rfl, rfl, rfl, HS3, H7, H8⟩ := hcut
    have HE : Hid (RqE w.heap.size w s d c vs g o n s d x y b7 b8 wc) := ⟨HS3.out, H7.out, H8.out⟩
    clear HS3 H7 H8
    go_upto_region 6 with fail
    have HE' : Hid (RqE w.heap.size w s d c vs g o n s d x y b7 b8 wc.drew) := HE.out.call (below_drewN (Below.refl _ _) 1)
    refine wp_region_held_drew (S := RqE w.heap.size w s d c vs g o n s d x y b7 b8) (by kernel_rfl) HE'.out (fun hS => ?_)
    clear HE
    have HE := HE'
    clear HE'
    generalize hwn : wc.drew = w4 at *
    clear hwn
    refine wpAnyH_take (i := 0) (v := ?v0_35) rfl (by kernel_rfl) (by kernel_rfl) (by kernel_rfl) (fun _ _ _ h => h) (Or.inl ⟨by rfl, ?y0_35⟩) hS ?z0_35
    case y0_35 => intro w hSw; (try dsimp only at hSw); go_simp; (try with_reducible rfl)
    try simp only [Act.put, List.getElem_toArray, List.getElem_cons_succ, List.getElem_cons_zero, List.setIfInBounds_toArray, List.set_cons_zero, List.set_cons_succ]
    refine wpAnyH_take (i := 1) (v := ?v1_36) rfl (by kernel_rfl) (by kernel_rfl) (by kernel_rfl) (fun _ _ _ h => h) (Or.inl ⟨by rfl, ?y1_36⟩) hS ?z1_36
    case y1_36 => intro w hSw; (try dsimp only at hSw); go_simp; (try with_reducible rfl)
    try simp only [Act.put, List.getElem_toArray, List.getElem_cons_succ, List.getElem_cons_zero, List.setIfInBounds_toArray, List.set_cons_zero, List.set_cons_succ]
    refine wpAnyH_take (i := 2) (v := ?v2_37) rfl (by kernel_rfl) (by kernel_rfl) (by kernel_rfl) (fun _ _ _ h => h) (Or.inl ⟨by rfl, ?y2_37⟩) hS ?z2_37
    case y2_37 => intro w hSw; have e := (hSw.1.1.1).cell (i := 0); simp only [List.getElem?_toArray, List.getElem?_cons_zero, List.getElem?_cons_succ] at e; clear hSw; go_simp; (try with_reducible rfl)
    try simp only [Act.put, List.getElem_toArray, List.getElem_cons_succ, List.getElem_cons_zero, List.setIfInBounds_toArray, List.set_cons_zero, List.set_cons_succ]
    refine wpAnyH_take (i := 3) rfl (by kernel_rfl) (by kernel_rfl) (by kernel_rfl) (fun _ _ _ h => h) (yieldsIf_load_nb rfl 24 (.tmp 7) rfl b7 24 x.mv1.list.toArray rfl (fun w h => h.2.1) _ Try.underlying24 rfl x.mv1.info) hS ?_
    try simp only [Act.put, List.getElem_toArray, List.getElem_cons_succ, List.getElem_cons_zero, List.setIfInBounds_toArray, List.set_cons_zero, List.set_cons_succ]
    refine wpAnyH_take (i := 5) (v := ?v5_38) rfl (by kernel_rfl) (by kernel_rfl) (by kernel_rfl) (fun _ _ _ h => h) (Or.inl ⟨by rfl, ?y5_38⟩) hS ?z5_38
    case y5_38 => intro w hSw; (try dsimp only at hSw); go_simp; (try with_reducible rfl)
    try simp only [Act.put, List.getElem_toArray, List.getElem_cons_succ, List.getElem_cons_zero, List.setIfInBounds_toArray, List.set_cons_zero, List.set_cons_succ]
    refine wpAnyH_take (i := 6) (v := ?v6_39) rfl (by kernel_rfl) (by kernel_rfl) (by kernel_rfl) (fun _ _ _ h => h) (Or.inl ⟨by rfl, ?y6_39⟩) hS ?z6_39
    case y6_39 => intro w hSw; have e := (hSw.1.1.1).cell (i := 1); simp only [List.getElem?_toArray, List.getElem?_cons_zero, List.getElem?_cons_succ] at e; clear hSw; go_simp; (try with_reducible rfl)
    try simp only [Act.put, List.getElem_toArray, List.getElem_cons_succ, List.getElem_cons_zero, List.setIfInBounds_toArray, List.set_cons_zero, List.set_cons_succ]
    refine wpAnyH_take (i := 7) rfl (by kernel_rfl) (by kernel_rfl) (by kernel_rfl) (fun _ _ _ h => h) (yieldsIf_load_nb rfl 24 (.tmp 8) rfl b8 24 (x.mv2 y).list.toArray rfl (fun w h => h.2.2) _ Try.underlying24 rfl (x.mv2 y).info) hS ?_
    try simp only [Act.put, List.getElem_toArray, List.getElem_cons_succ, List.getElem_cons_zero, List.setIfInBounds_toArray, List.set_cons_zero, List.set_cons_succ]
    refine wpAnyH_ready (rs := [4]) (by kernel_rfl) (by simp) (AllReadyH.cons rfl (fun K hK => ?_) AllReadyH.nil)
    go_simp
    refine (put_any vs _ n cap s x.mv1 _ HE.out.1.1.2.2.2.2 hs hn').mono ?_
    rintro en w5 ⟨g1, c1, rfl, hR5, hc1, hb5⟩
    have HE5 := Lib.hid (HE.out.call hb5)
    have HR5 := Lib.hid hR5
    clear HE hR5 hb5
    refine hK.out _ _ HE5.out (fun hS => ?_)
    clear hK K
    try simp only [Act.put, List.getElem_toArray, List.getElem_cons_succ, List.getElem_cons_zero, List.setIfInBounds_toArray, List.set_cons_zero, List.set_cons_succ]
    refine wpAnyH_ready (rs := [8]) (by kernel_rfl) (by simp) (AllReadyH.cons rfl (fun K hK => ?_) AllReadyH.nil)
    go_simp
    refine (put_any (vs.set s x.mv1) _ n c1 d (x.mv2 y) _ HR5.out hd hn').mono ?_
    rintro en w6 ⟨g2, c2, rfl, hR6, hc2, hb6⟩
    have HE6 := Lib.hid (HE5.out.call hb6)
    have HR6 := Lib.hid hR6
    clear HE5 hR6 hb6 HR5
    refine hK.out _ _ HE6.out (fun hS => ?_)
    clear hK K
    try simp only [Act.put, List.getElem_toArray, List.getElem_cons_succ, List.getElem_cons_zero, List.setIfInBounds_toArray, List.set_cons_zero, List.set_cons_succ]
    refine wpAnyH_take (i := 9) (v := ?v9_40) rfl (by kernel_rfl) (by kernel_rfl) (by kernel_rfl) (fun _ _ _ h => h) (Or.inl ⟨by rfl, ?y9_40⟩) hS ?z9_40
    case y9_40 => intro w hSw; (try dsimp only at hSw); go_simp; (try with_reducible rfl)
    try simp only [Act.put, List.getElem_toArray, List.getElem_cons_succ, List.getElem_cons_zero, List.setIfInBounds_toArray, List.set_cons_zero, List.set_cons_succ]
    refine wpAnyH_done (by kernel_rfl) ?_ _
    have e0 := HE6.out.1.1.1.cell (i := 0)
    have e1 := HE6.out.1.1.1.cell (i := 1)
    simp only [List.getElem?_toArray, List.getElem?_cons_zero, List.getElem?_cons_succ] at e0 e1
    have hg20 : ∃ g', g' = g2 := ⟨_, rfl⟩
    clear hg20
    go_wp2_with fail
    refine (HAl.out _).mono ?_
    rintro en w7 ⟨rfl, hb⟩
    have HE7 := Lib.hid (HE6.out.call hb)
    have HR7 := Lib.hid (HR6.out.call hb)
    clear HE6 HR6 hb e0 e1
    have e0 := HE7.out.1.1.1.cell (i := 0)
    have e1 := HE7.out.1.1.1.cell (i := 1)
    simp only [List.getElem?_toArray, List.getElem?_cons_zero, List.getElem?_cons_succ] at e0 e1
    go_wp2_with (first | ((with_reducible show wpList _ _ _ (_ :: _) _ _); refine wpList_load_cf (.tmp 5) rfl rfl rfl HE7.out.1.1.2.1 ?_) | fail)
    refine (HM1.out _ _ _ HR7.out).mono ?_
    rintro en w8 ⟨rfl, hb⟩
    have HE8 := Lib.hid (HE7.out.call hb)
    have HR8 := Lib.hid (HR7.out.call hb)
    clear HE7 HR7 hb e0 e1
    have e0 := HE8.out.1.1.1.cell (i := 0)
    have e1 := HE8.out.1.1.1.cell (i := 1)
    simp only [List.getElem?_toArray, List.getElem?_cons_zero, List.getElem?_cons_succ] at e0 e1
    go_wp2_with (first | ((with_reducible show wpList _ _ _ (_ :: _) _ _); refine wpList_load_cf (.tmp 5) rfl rfl rfl HE8.out.1.1.2.1 ?_) | fail)
    refine (HM2.out _ _ _ HR8.out).mono ?_
    rintro en w9 ⟨rfl, hb⟩
    have HB := Lib.hid (HE8.out.call hb).1.1.2.2.1
    clear HE8 HR8 hb e0 e1
    go_wp2_with fail
    go_ret
    exact ⟨rfl, HB.out⟩

theorem mergeChains_walk (vs : List Val) (A : Option Addr) (n cap : Nat) (x y : Int) (c : Cfg) (w : World) (hR : Vals w A n vs) (hn : n ≤ 9223372036854775807) (hok : ∀ v ∈ vs, v.Ok) : Calls Try.prog 5 #[.slice A n cap, .agg #[.int .i64 x, .int .i64 y], .agg c.list.toArray] w fun en w' => en = .returned (.bool true) ∧ Below w.heap.size w w' := by
  by_cases h : ¬ c.Ok ∨ 60 < n
  · exact mergeChains_bad A n cap x y c w hn h
  have ok : c.Ok := by
    by_cases ok : c.Ok
    · exact ok
    · exact absurd (.inl ok) h
  have h60 : n ≤ 60 := by omega
  have hlen := hR.1
  by_cases hk : reqCode vs x y c = 0
  · have h1 := hk
    unfold reqCode at h1
    by_cases hbad : x < 0 ∨ y < 0 ∨ (vs.length : Int) ≤ x ∨ (vs.length : Int) ≤ y
    · rw [if_pos hbad] at h1; omega
    rw [if_neg hbad] at h1
    by_cases heq : x = y
    · rw [if_pos heq] at h1; omega
    obtain ⟨s, rfl⟩ := Int.eq_ofNat_of_zero_le (show 0 ≤ x by omega)
    obtain ⟨d, rfl⟩ := Int.eq_ofNat_of_zero_le (show 0 ≤ y by omega)
    have e := reqCode_in (vs := vs) (s := s) (d := d) c (by omega) (by omega) (by omega)
    rw [hk] at e
    obtain ⟨g, o, rfl, hg, hr⟩ := vals_some hR (by omega)
    exact mergeChains_good vs g o n cap s d c w hlen hg hr h60 hok ok (by omega) (by omega) (by omega) _ _ (List.getElem?_eq_getElem (by omega)) (List.getElem?_eq_getElem (by omega)) e.symm
  · exact mergeChains_no vs A n cap x y c w hR h60 hok ok hk

end Go.Proofs.Ytgmbgomlicamdaa
