/- Chapter 18: the walk of DeadlineRises, where the bounds are compared. -/
import Derived.Test.YtmihnoiofbfbhaaDlS
namespace Go.Proofs.Ytmihnoiofbfbhaa
open Go.RowKit
set_option linter.unusedSimpArgs false
set_option linter.unusedVariables false
set_option maxRecDepth 20000

theorem cfg_one (c : Cfg) : c.list.toArray.all (·.oneCell') = true := by
  simp only [List.all_toArray]
  refine List.all_eq_true.2 fun v hv => ?_
  simp only [Cfg.list, List.mem_cons, List.not_mem_nil, or_false] at hv
  rcases hv with h | h | h | h | h | h | h | h | h | h | h | h | h | h | h | h | h | h | h | h <;> (rw [h]; rfl)

/-- The zero values. -/
abbrev Z24 : Array Value := #[.int .i64 0, .int .u64 0, .int .u64 0]
abbrev Z26 : Array Value := #[.int .i64 0, .int .i64 0, .int .u64 0, .int .u64 0, .int .u64 0, .int .u64 0, .int .u64 0, .int .u64 0, .int .u64 0, .int .u64 0, .int .i64 0, .int .i64 0, .int .i64 0, .int .i64 0, .int .i64 0, .int .i64 0, .int .i64 0, .int .i64 0, .int .u64 0, .int .u64 0]

set_option maxHeartbeats 8000000 in
theorem rises_good (e a wt m0 m1 m2 m3 : Int) (c : Cfg) (w : World) (ok : c.Ok) (h1 : ¬ 2305843009213693952 < a) (h2 : ¬ 2305843009213693952 < wt) (f' u' k' r3 : Int)
    (b0 : 0 ≤ m0 ∧ m0 ≤ 4294967295) (b1 : 0 ≤ m1 ∧ m1 ≤ 4294967295) (b2 : 0 ≤ m2 ∧ m2 ≤ 4294967295) (b3 : 0 ≤ m3 ∧ m3 ≤ 4294967295)
    (v0 : IntKind.u64.wrap m0 = m0) (v1 : IntKind.u64.wrap m1 = m1) (v2 : IntKind.u64.wrap m2 = m2) (v3 : IntKind.i64.wrap r3 = r3)
    (q0 : IntKind.u64.wrap (a + m0) = a + m0) (q1 : IntKind.u64.wrap (wt + m1) = wt + m1) (q2 : IntKind.u64.wrap (c.forced + m2) = c.forced + m2)
    (n2 : (if 1152921504606846976 < c.forced + m2 then 1152921504606846976 else c.forced + m2) = f')
    (q3 : IntKind.i64.wrap (c.unb + r3) = c.unb + r3) (q4 : IntKind.i64.wrap (c.slash - 1) = c.slash - 1) (n3 : (if c.slash - 1 < c.unb + r3 then c.slash - 1 else c.unb + r3) = u')
    (q5 : IntKind.u64.wrap (c.minChurn + 1) = c.minChurn + 1) (q6 : Int.tdiv (c.minChurn + 1) 2 = k') (q7 : IntKind.u64.wrap k' = k') (t3 : Int.tmod m3 1000 = r3) (t4 : IntKind.u32.wrap r3 = r3)
    (d : Cfg) (hdd : d = { c with forced := f', unb := u', minChurn := k' }) (okd : d.Ok) (po so : Option Int)
    (hpc : ∀ w, Calls Try.prog 16 #[.int .i64 e, .int .u64 a, .int .u64 wt, .agg c.list.toArray] w (Ans po w))
    (hpd : ∀ w, Calls Try.prog 16 #[.int .i64 e, .int .u64 (a + m0), .int .u64 (wt + m1), .agg d.list.toArray] w (Ans so w))
    (hle : so = none ∨ ∃ x y, po = some x ∧ so = some y ∧ x ≤ y) : Calls Try.prog 4 #[.agg #[.int .i64 e, .int .u64 a, .int .u64 wt], .agg #[.int .u32 m0, .int .u32 m1, .int .u32 m2, .int .u32 m3], .agg c.list.toArray] w (Tr w) := by
  have HF := Lib.hid (Rs.new w e a wt m0 m1 m2 m3 c)
  have HCk := Lib.hid (fun w => check_any c w)
  have HAl := Lib.hid alive_any
  have HOk := Lib.hid ok
  have HOd := Lib.hid okd
  have HDd := Lib.hid hdd
  have HCd := Lib.hid (fun w => check_any d w)
  have HPc := Lib.hid hpc
  have HPd := Lib.hid hpd
  have HLe := Lib.hid hle
  clear ok okd hdd hpc hpd hle
  go_enter Try.func4, Try.ntmps4
  have x0 := HF.out.x0
  have x1 := HF.out.x1
  have x2 := HF.out.x2
  go_wp2_with (first | (with_reducible show wpList _ _ _ (_ :: _) _ _; refine wpList_load_cfg (.tmp 5) rfl rfl rfl HF.out.hc ?_) | fail)
  clear x0 x1 x2
  refine (HCk.out _).mono ?_
  rintro en w0 ⟨⟨r, rfl, hr⟩, hb⟩
  have HF' := Lib.hid (HF.out.next hb)
  clear HF hb
  have HF := HF'
  clear HF'
  obtain rfl : r = 0 := hr.2 HOk.out
  clear hr
  have x0 := HF.out.x0
  have x1 := HF.out.x1
  have x2 := HF.out.x2
  go_wp2_with fail
  clear x0 x1 x2
  have hi24 : (Try.prog.info? 24).map (·.size) = some 3 := by kernel_rfl
  have hi26 : (Try.prog.info? 26).map (·.size) = some c.list.length := by kernel_rfl
  obtain ⟨fs24, hd24⟩ : ∃ fs, Try.prog.underlying 24 = some (.struct fs) := ⟨_, Try.underlying24⟩
  obtain ⟨fs26, hd26⟩ : ∃ fs, Try.prog.underlying 26 = some (.struct fs) := ⟨_, Try.underlying26⟩
  refine wp_then_of (fun a0 a' w' => ∃ q7 q8, a' = ((((a0.put (some 27) (.agg #[.int .i64 e, .int .u64 a, .int .u64 wt])).put (some 28) (.agg c.list.toArray)).put (some 7) (.pointer (some ⟨q7, 0, none⟩))).put (some 8) (.pointer (some ⟨q8, 0, none⟩))) ∧ Ws w.heap.size w.heap.size q7 q8 w w' e a wt m0 m1 m2 m3 c a wt c) ?_ ?_
  · have hr : Hid (Below w0.heap.size w0 w0.drew) := (Below.refl _ _).drew
    have R24 : ∀ w', Hid (Below w0.heap.size w0 w') → w'.rangeAt w.heap.size 0 [.int .i64 e, .int .u64 a, .int .u64 wt] := fun w' h => range_below HF.out.hx.range h.out
    have R26 : ∀ w', Hid (Below w0.heap.size w0 w') → w'.rangeAt (w.heap.size + 1 + 1) 0 c.list := fun w' h => range_below HF.out.hc.range h.out
    refine wp_region_held_drew (S := fun w' => Hid (Below w0.heap.size w0 w')) (by kernel_rfl) hr (fun hS => ?_)
    refine wpAnyH_take (i := 0) rfl (by kernel_rfl) (by kernel_rfl) (by kernel_rfl) (fun _ _ _ h => by cases h.1) (yieldsIf_load_mid (by rfl) _ _ rfl _ _ rfl [.int .i64 e, .int .u64 a, .int .u64 wt] _ (fun w hS => R24 w hS) hd24 rfl hi24) hS ?_
    try simp only [Act.put, List.getElem_toArray, List.getElem_cons_succ, List.getElem_cons_zero, List.setIfInBounds_toArray, List.set_cons_zero, List.set_cons_succ]
    refine wpAnyH_take (i := 1) rfl (by kernel_rfl) (by kernel_rfl) (by kernel_rfl) (fun _ _ _ h => by cases h.1) (yieldsIf_load_mid (by rfl) _ _ rfl _ _ rfl c.list _ (fun w hS => R26 w hS) hd26 rfl hi26) hS ?_
    try simp only [Act.put, List.getElem_toArray, List.getElem_cons_succ, List.getElem_cons_zero, List.setIfInBounds_toArray, List.set_cons_zero, List.set_cons_succ]
    refine wpAnyH_ready (rs := [2, 3]) (by kernel_rfl) (by simp) (AllReadyH.cons rfl (fun K hK => ?_) (AllReadyH.cons rfl (fun K hK => ?_) AllReadyH.nil))
    · go_simp
      have hS1 : Hid (Below w0.heap.size w0 _) := ((Below.refl w0.heap.size w0).alloc (Nat.le_refl _) (.cells Z24 24)).drew
      refine hK.out _ _ hS1 (fun hS => ?_)
      clear hK hS1 K
      try simp only [Act.put, List.getElem_toArray, List.getElem_cons_succ, List.getElem_cons_zero, List.setIfInBounds_toArray, List.set_cons_zero, List.set_cons_succ]
      refine wpAnyH_ready (rs := [3]) (by kernel_rfl) (by simp) (AllReadyH.cons rfl (fun K hK => ?_) AllReadyH.nil)
      go_simp
      have hS2 : Hid (Below w0.heap.size w0 _) := (((Below.refl w0.heap.size w0).alloc (Nat.le_refl _) (.cells Z24 24)).alloc (by simp) (.cells Z26 26)).drew
      have n1 := (Nb.new w0 (.cells Z24 24)).alloc (o' := .cells Z26 26)
      have n2 := Nb.new (w0.alloc (.cells Z24 24)) (.cells Z26 26)
      have e2 : (w0.alloc (.cells Z24 24)).heap.size = w0.heap.size + 1 := by simp
      rw [e2] at n2
      refine hK.out _ _ hS2 (fun hS => ?_)
      clear hK hS K
      try simp only [Act.put, List.getElem_toArray, List.getElem_cons_succ, List.getElem_cons_zero, List.setIfInBounds_toArray, List.set_cons_zero, List.set_cons_succ]
      have lt0 := HF.out.hc.lt
      have m7 : Nb ((w0.alloc (.cells Z24 24)).alloc (.cells Z26 26)).drew w0.heap.size (.cells Z24 24 (0, 0)) := n1
      have m8 : Nb ((w0.alloc (.cells Z24 24)).alloc (.cells Z26 26)).drew (w0.heap.size + 1) (.cells Z26 26 (0, 0)) := n2
      have rs := HF.out.next hS2.out
      have hS3 : Hid (Below w0.heap.size w0 (World.setRow ((w0.alloc (.cells Z24 24)).alloc (.cells Z26 26)).drew w0.heap.size #[.int .i64 e, .int .u64 a, .int .u64 wt])) := below_setRow hS2.out (by omega) _
      refine wpAnyH_ready (rs := [4]) (by kernel_rfl) (by simp) (AllReadyH.cons rfl (fun K hK => ?_) AllReadyH.nil)
      refine wp_store_row 24 (.tmp 7) (.tmp 27) rfl _ _ rfl rfl 24 Z24 m7 hi24 rfl (by simp [Value.oneCell']) ?_
      refine hK.out _ _ hS3 (fun hS => ?_)
      clear hK hS K
      try simp only [Act.put, List.getElem_toArray, List.getElem_cons_succ, List.getElem_cons_zero, List.setIfInBounds_toArray, List.set_cons_zero, List.set_cons_succ]
      have m7' := m7.same (cs := #[.int .i64 e, .int .u64 a, .int .u64 wt])
      have m8' := m8.other (g := w0.heap.size) (cs := #[.int .i64 e, .int .u64 a, .int .u64 wt]) (by omega)
      have rs' := rs.set w0.heap.size #[.int .i64 e, .int .u64 a, .int .u64 wt] (by omega)
      have hS4 : Hid (Below w0.heap.size w0 (World.setRow (World.setRow ((w0.alloc (.cells Z24 24)).alloc (.cells Z26 26)).drew w0.heap.size #[.int .i64 e, .int .u64 a, .int .u64 wt]) (w0.heap.size + 1) c.list.toArray)) := below_setRow hS3.out (by omega) _
      refine wpAnyH_ready (rs := [5]) (by kernel_rfl) (by simp) (AllReadyH.cons rfl (fun K hK => ?_) AllReadyH.nil)
      refine wp_store_row 26 (.tmp 8) (.tmp 28) rfl _ _ rfl rfl 26 Z26 m8' hi26 rfl (cfg_one c) ?_
      refine hK.out _ _ hS4 (fun hS => ?_)
      clear hK hS K
      try simp only [Act.put, List.getElem_toArray, List.getElem_cons_succ, List.getElem_cons_zero, List.setIfInBounds_toArray, List.set_cons_zero, List.set_cons_succ]
      refine wpAnyH_done (by kernel_rfl) ?_ _
      exact ⟨rfl, w0.heap.size, (w0.heap.size + 1), rfl, rs'.set (w0.heap.size + 1) _ (by omega), m7'.other (by omega), m8'.same, by omega, by omega, by omega⟩
    · go_simp
      have hS1 : Hid (Below w0.heap.size w0 _) := ((Below.refl w0.heap.size w0).alloc (Nat.le_refl _) (.cells Z26 26)).drew
      refine hK.out _ _ hS1 (fun hS => ?_)
      clear hK hS1 K
      try simp only [Act.put, List.getElem_toArray, List.getElem_cons_succ, List.getElem_cons_zero, List.setIfInBounds_toArray, List.set_cons_zero, List.set_cons_succ]
      refine wpAnyH_ready (rs := [2]) (by kernel_rfl) (by simp) (AllReadyH.cons rfl (fun K hK => ?_) AllReadyH.nil)
      go_simp
      have hS2 : Hid (Below w0.heap.size w0 _) := (((Below.refl w0.heap.size w0).alloc (Nat.le_refl _) (.cells Z26 26)).alloc (by simp) (.cells Z24 24)).drew
      have n1 := (Nb.new w0 (.cells Z26 26)).alloc (o' := .cells Z24 24)
      have n2 := Nb.new (w0.alloc (.cells Z26 26)) (.cells Z24 24)
      have e2 : (w0.alloc (.cells Z26 26)).heap.size = w0.heap.size + 1 := by simp
      rw [e2] at n2
      refine hK.out _ _ hS2 (fun hS => ?_)
      clear hK hS K
      try simp only [Act.put, List.getElem_toArray, List.getElem_cons_succ, List.getElem_cons_zero, List.setIfInBounds_toArray, List.set_cons_zero, List.set_cons_succ]
      have lt0 := HF.out.hc.lt
      have m7 : Nb ((w0.alloc (.cells Z26 26)).alloc (.cells Z24 24)).drew (w0.heap.size + 1) (.cells Z24 24 (0, 0)) := n2
      have m8 : Nb ((w0.alloc (.cells Z26 26)).alloc (.cells Z24 24)).drew w0.heap.size (.cells Z26 26 (0, 0)) := n1
      have rs := HF.out.next hS2.out
      have hS3 : Hid (Below w0.heap.size w0 (World.setRow ((w0.alloc (.cells Z26 26)).alloc (.cells Z24 24)).drew (w0.heap.size + 1) #[.int .i64 e, .int .u64 a, .int .u64 wt])) := below_setRow hS2.out (by omega) _
      refine wpAnyH_ready (rs := [4]) (by kernel_rfl) (by simp) (AllReadyH.cons rfl (fun K hK => ?_) AllReadyH.nil)
      refine wp_store_row 24 (.tmp 7) (.tmp 27) rfl _ _ rfl rfl 24 Z24 m7 hi24 rfl (by simp [Value.oneCell']) ?_
      refine hK.out _ _ hS3 (fun hS => ?_)
      clear hK hS K
      try simp only [Act.put, List.getElem_toArray, List.getElem_cons_succ, List.getElem_cons_zero, List.setIfInBounds_toArray, List.set_cons_zero, List.set_cons_succ]
      have m7' := m7.same (cs := #[.int .i64 e, .int .u64 a, .int .u64 wt])
      have m8' := m8.other (g := (w0.heap.size + 1)) (cs := #[.int .i64 e, .int .u64 a, .int .u64 wt]) (by omega)
      have rs' := rs.set (w0.heap.size + 1) #[.int .i64 e, .int .u64 a, .int .u64 wt] (by omega)
      have hS4 : Hid (Below w0.heap.size w0 (World.setRow (World.setRow ((w0.alloc (.cells Z26 26)).alloc (.cells Z24 24)).drew (w0.heap.size + 1) #[.int .i64 e, .int .u64 a, .int .u64 wt]) w0.heap.size c.list.toArray)) := below_setRow hS3.out (by omega) _
      refine wpAnyH_ready (rs := [5]) (by kernel_rfl) (by simp) (AllReadyH.cons rfl (fun K hK => ?_) AllReadyH.nil)
      refine wp_store_row 26 (.tmp 8) (.tmp 28) rfl _ _ rfl rfl 26 Z26 m8' hi26 rfl (cfg_one c) ?_
      refine hK.out _ _ hS4 (fun hS => ?_)
      clear hK hS K
      try simp only [Act.put, List.getElem_toArray, List.getElem_cons_succ, List.getElem_cons_zero, List.setIfInBounds_toArray, List.set_cons_zero, List.set_cons_succ]
      refine wpAnyH_done (by kernel_rfl) ?_ _
      exact ⟨rfl, (w0.heap.size + 1), w0.heap.size, rfl, rs'.set w0.heap.size _ (by omega), m7'.other (by omega), m8'.same, by omega, by omega, by omega⟩
  · rintro a' w1 ⟨q7, q8, rfl, hW⟩
    have HW := Lib.hid hW
    clear hW HF
    try simp only [Act.put, List.getElem_toArray, List.getElem_cons_succ, List.getElem_cons_zero, List.setIfInBounds_toArray, List.set_cons_zero, List.set_cons_succ]
    have y0 := HW.out.hy.cell (i := 1)
    have y1 := HW.out.hy.frozen (i := 1)
    have y2 := HW.out.rs.hm.cell (i := 0)
    go_wp2_with (first | (with_reducible show wpList _ _ _ (⟨some 36, _, _, _, _, _⟩ :: _) _ _; refine stopped ?_) | fail)
    unfold Stopped
    clear y0 y1 y2
    have HW' := Lib.hid (HW.out.setY1 (a + m0))
    generalize hwn : World.setCell _ _ _ = w2 at HW' ⊢
    clear HW hwn
    have HW := HW'
    clear HW'
    have y0 := HW.out.hy.cell (i := 2)
    have y1 := HW.out.hy.frozen (i := 2)
    have y2 := HW.out.rs.hm.cell (i := 1)
    go_wp2_with (first | (with_reducible show wpList _ _ _ (⟨some 43, _, _, _, _, _⟩ :: _) _ _; refine stopped ?_) | fail)
    unfold Stopped
    clear y0 y1 y2
    have HW' := Lib.hid (HW.out.setY2 (wt + m1))
    generalize hwn : World.setCell _ _ _ = w3 at HW' ⊢
    clear HW hwn
    have HW := HW'
    clear HW'
    have y0 := (show _ = some (Value.int .u64 c.forced) from HW.out.hd.c9)
    have y1 := (show Nb _ _ _ from HW.out.hd).frozen (i := 9)
    have y2 := HW.out.rs.hm.cell (i := 2)
    go_wp2_with (first | (with_reducible show wpList _ _ _ (⟨some 51, _, _, _, _, _⟩ :: _) _ _; refine stopped ?_) | fail)
    unfold Stopped
    clear y0 y1 y2
    have HW' := Lib.hid (HW.out.setD 9 (.int .u64 f') { c with forced := f' } rfl)
    generalize hwn : World.setCell _ _ _ = w4 at HW' ⊢
    clear HW hwn
    have HW := HW'
    clear HW'
    have y0 := (show _ = some (Value.int .i64 c.unb) from HW.out.hd.c10)
    have y1 := (show _ = some (Value.int .i64 c.slash) from HW.out.hd.c11)
    have y2 := (show Nb _ _ _ from HW.out.hd).frozen (i := 10)
    have y3 := HW.out.rs.hm.cell (i := 3)
    go_wp2_with (first | (with_reducible show wpList _ _ _ (⟨some 63, _, _, _, _, _⟩ :: _) _ _; refine stopped ?_) | fail)
    unfold Stopped
    clear y0 y1 y2 y3
    have HW' := Lib.hid (HW.out.setD 10 (.int .i64 u') { c with forced := f', unb := u' } rfl)
    generalize hwn : World.setCell _ _ _ = w5 at HW' ⊢
    clear HW hwn
    have HW := HW'
    clear HW'
    have y0 := (show _ = some (Value.int .u64 c.minChurn) from HW.out.hd.c7)
    have y1 := (show Nb _ _ _ from HW.out.hd).frozen (i := 7)
    go_wp2_with (first | (with_reducible show wpList _ _ _ (⟨some 68, _, _, _, _, _⟩ :: _) _ _; refine stopped ?_) | fail)
    unfold Stopped
    clear y0 y1
    have HW' := Lib.hid (HW.out.setD 7 (.int .u64 k') d (by rw [HDd.out]; rfl))
    generalize hwn : World.setCell _ _ _ = w6 at HW' ⊢
    clear HW hwn
    have HW := HW'
    clear HW'
    have z0 := HW.out.rs.x0
    have z1 := HW.out.rs.x1
    have z2 := HW.out.rs.x2
    go_wp2_with (first | (with_reducible show wpList _ _ _ (_ :: _) _ _; refine wpList_load_cfg (.tmp 8) rfl rfl rfl HW.out.hd ?_) | fail)
    clear z0 z1 z2
    refine (HCd.out _).mono ?_
    rintro en w7 ⟨⟨r, rfl, hr⟩, hb⟩
    have HW' := Lib.hid (HW.out.next hb)
    clear HW hb
    have HW := HW'
    clear HW'
    obtain rfl : r = 0 := hr.2 HOd.out
    clear hr
    have z0 := HW.out.rs.x0
    have z1 := HW.out.rs.x1
    have z2 := HW.out.rs.x2
    go_wp2_with (first | (with_reducible show wpList _ _ _ (_ :: _) _ _; refine wpList_load_cfg (.tmp 5) rfl rfl rfl HW.out.rs.hc ?_) | fail)
    clear z0 z1 z2
    refine (HPc.out _).mono ?_
    rintro en w8 ⟨rfl, hb⟩
    have HW' := Lib.hid (HW.out.next hb)
    clear HW hb
    have HW := HW'
    clear HW'
    have z0 := HW.out.hy.cell (i := 0)
    have z1 := HW.out.hy.cell (i := 1)
    have z2 := HW.out.hy.cell (i := 2)
    go_wp2_with (first | (with_reducible show wpList _ _ _ (_ :: _) _ _; refine wpList_load_cfg (.tmp 8) rfl rfl rfl HW.out.hd ?_) | fail)
    clear z0 z1 z2
    refine (HPd.out _).mono ?_
    rintro en w9 ⟨rfl, hb⟩
    have HW' := Lib.hid (HW.out.next hb)
    clear HW hb
    have HW := HW'
    clear HW'
    have z0 := HW.out.rs.x0
    have z1 := HW.out.rs.x1
    have z2 := HW.out.rs.x2
    go_wp2_with fail
    clear z0 z1 z2
    refine (HAl.out _).mono ?_
    rintro en w10 ⟨rfl, hb⟩
    have HW' := Lib.hid (HW.out.next hb)
    clear HW hb
    have HW := HW'
    clear HW'
    have HB := Lib.hid HW.out.rs.hb
    clear HW
    rcases HLe.out with hso | ⟨x, y, hpo, hso, hxy⟩
    · subst hso
      clear HLe
      simp only [Pl.oV, Pl.oB, Option.getD_none, Option.isSome_none]
      go_wp2
      go_ret
      exact ⟨rfl, HB.out⟩
    · subst hso
      subst hpo
      clear HLe
      simp only [Pl.oV, Pl.oB, Option.getD_some, Option.isSome_some]
      go_wp2
      go_ret
      exact ⟨rfl, HB.out⟩

end Go.Proofs.Ytmihnoiofbfbhaa
