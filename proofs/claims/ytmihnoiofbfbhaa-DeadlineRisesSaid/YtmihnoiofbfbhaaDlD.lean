/- Chapter 18: Boundaries, the program's and the reference's. -/
import Derived.Test.YtmihnoiofbfbhaaDlC
import Derived.Test.YtmihnoiofbfbhaaCfgC
namespace Go.Proofs.Ytmihnoiofbfbhaa
open Go.RowKit

theorem new_intsk (w : World) (k : IntKind) (t : TypeId) (xs : List Int) : Ints (w.alloc (.cells (xs.map (Value.int k)).toArray t)) k (some ⟨w.heap.size, 0, none⟩) xs.length xs :=
  ⟨rfl, .inr ⟨w.heap.size, 0, rfl, fun j hj => by rw [Nat.zero_add, cell_of_row _ _ _ _ _ (0, 0) (heap_alloc_new w _)]; simp [hj]⟩⟩

theorem refadd_fits (a : Option Addr) (n cap : Nat) (zs : List Int) (w : World) (hl : n ≤ 1048576) (hc : Ints w .u64 a n zs) (hz : ∀ x ∈ zs, 0 ≤ x ∧ x ≤ 18446744073709551615) (hs : zs.sum ≤ 18446744073709551615) (h0 : 0 < n := by omega) :
    Calls Try.prog 27 #[.slice a n cap] w fun e w' => e = .returned (.tuple #[.int .u64 zs.sum, .bool true]) ∧ ∃ m, w' = w.drewN m := by
  obtain ⟨hn, rfl | ⟨b, o, rfl, hcell⟩⟩ := hc
  · simp at hn; omega
  · exact (refadd_some b o n cap zs w hl hn hcell hz).mono fun e w' h => ⟨h.1.1 hs, h.2⟩

theorem refadd_over (a : Option Addr) (n cap : Nat) (zs : List Int) (w : World) (hl : n ≤ 1048576) (hc : Ints w .u64 a n zs) (hz : ∀ x ∈ zs, 0 ≤ x ∧ x ≤ 18446744073709551615) (hs : 18446744073709551615 < zs.sum) :
    Calls Try.prog 27 #[.slice a n cap] w fun e w' => e = .returned (.tuple #[.int .u64 0, .bool false]) ∧ ∃ m, w' = w.drewN m := by
  obtain ⟨hn, rfl | ⟨b, o, rfl, hcell⟩⟩ := hc
  · simp at hs
  · exact (refadd_some b o n cap zs w hl hn hcell hz).mono fun e w' h => ⟨h.1.2 hs, h.2⟩

set_option maxHeartbeats 800000 in
theorem boundaries_any (a wt : Int) (c : Cfg) (w : World) (h0 : 0 ≤ a) (h1 : a ≤ 18446744073709551615) (g0 : 0 ≤ wt) (g1 : wt ≤ 18446744073709551615) (hf0 : 0 ≤ c.forced) (hf1 : c.forced ≤ 18446744073709551615) (hm0 : 1 ≤ c.minChurn) (hm1 : c.minChurn ≤ 18446744073709551615) :
    Calls Try.prog 11 #[.int .u64 a, .int .u64 wt, .agg c.list.toArray] w (Ans (Pl.bnd a wt c.forced c.minChurn) w) := by
  have hn := CfgAt.new w c
  have e9 := hn.c9
  obtain ⟨w1, hw1⟩ : ∃ w1, w1 = w.alloc (.cells c.list.toArray 26) := ⟨_, rfl⟩
  have hI := new_intsk w1 .u64 22 [a, wt, c.forced]
  obtain ⟨w2, hw2⟩ : ∃ w2, w2 = w1.alloc (.cells #[.int .u64 a, .int .u64 wt, .int .u64 c.forced] 22) := ⟨_, rfl⟩
  have hn2 : CfgAt w2 w.heap.size c := by rw [hw2, hw1]; exact hn.below ((Below.refl _ _).alloc (Nat.le_refl _) _)
  have hB2 : Below w.heap.size w w2 := by rw [hw2, hw1]; exact ((Below.refl _ _).alloc (Nat.le_refl _) _).alloc (by simp) _
  have hbnd : Pl.bnd a wt c.forced c.minChurn = if 18446744073709551615 < a + wt + c.forced then none else (Pl.epo (a + wt + c.forced) c.minChurn).map fun n => max n 1 := rfl
  have hsum : ([a, wt, c.forced] : List Int).sum = a + wt + c.forced := by simp; omega
  have hin : ∀ x ∈ [a, wt, c.forced], 0 ≤ x ∧ x ≤ 18446744073709551615 := by
    intro x hx
    simp at hx
    rcases hx with rfl | rfl | rfl
    · exact ⟨h0, h1⟩
    · exact ⟨g0, g1⟩
    · exact ⟨hf0, hf1⟩
  have hI2 : Ints w2 .u64 (some ⟨w1.heap.size, 0, none⟩) 3 [a, wt, c.forced] := by rw [hw2]; exact hI
  have hz1 : w1.heap.size = w.heap.size + 1 := by rw [hw1]; simp
  rw [hz1] at hI2
  have HW1 := Lib.hid hw1
  have HW2 := Lib.hid hw2
  have HB2 := Lib.hid hB2
  have HN2 := Lib.hid hn2
  have HB0 := Lib.hid hbnd
  have e7 := HN2.out.c7
  by_cases hS : 18446744073709551615 < a + wt + c.forced
  · have HA := Lib.hid (add_over (some ⟨w.heap.size + 1, 0, none⟩) 3 3 [a, wt, c.forced] w2 (by omega) hI2 hin (by rw [hsum]; exact hS))
    have HB : Hid (Pl.bnd a wt c.forced c.minChurn = none) := by rw [Hid, HB0.out, if_pos hS]
    rw [hw2, hw1] at HA
    clear hn hI hn2 hB2 hbnd hsum hin hI2 hw1 hw2 hz1 hS e7 h0 h1 g0 g1 hf0 hf1 hm0 hm1
    generalize c.list = cl at *
    generalize c.forced = x9 at *
    go_enter Try.func11, Try.ntmps11
    go_wp2_with fail
    refine HA.out.mono ?_
    rintro e w' ⟨rfl, rfl⟩
    go_wp2
    go_ret2
    exact ⟨by rw [HB.out]; rfl, by have h := HB2.out; rw [HW2.out, HW1.out] at h; exact h⟩
  · have hsn : 0 ≤ a + wt + c.forced := by omega
    have hsm : a + wt + c.forced ≤ 18446744073709551615 := by omega
    have HA := Lib.hid (add_fits (some ⟨w.heap.size + 1, 0, none⟩) 3 3 [a, wt, c.forced] w2 (by omega) hI2 hin (by rw [hsum]; exact hsm))
    rw [hsum] at HA
    have hep := fun w => epochs_any (a + wt + c.forced) c.minChurn w hsn hsm hm0 hm1
    have hq0 := Pl.cd_nonneg (a + wt + c.forced) c.minChurn hm0 hsn
    have hepo : Pl.epo (a + wt + c.forced) c.minChurn = if Pl.cd (a + wt + c.forced) c.minChurn ≤ 1099511627776 then some (Pl.cd (a + wt + c.forced) c.minChurn) else none := rfl
    generalize Pl.cd (a + wt + c.forced) c.minChurn = q at hq0 hepo
    have HB1 : Hid (Pl.bnd a wt c.forced c.minChurn = (Pl.epo (a + wt + c.forced) c.minChurn).map fun n => max n 1) := by rw [Hid, HB0.out, if_neg hS]
    generalize hsv : a + wt + c.forced = s at HA hep hepo HB1
    generalize hbo : Pl.bnd a wt c.forced c.minChurn = bo at HB1 ⊢
    rw [hw2, hw1] at HA
    clear hn hI hn2 hB2 hbnd hsum hin hI2 hw1 hw2 hz1 hS hsv HB0 hbo hsn hsm e7 h0 h1 g0 g1 hf0 hf1 hm0 hm1
    by_cases hq : q ≤ 1099511627776
    · rw [if_pos hq] at hepo
      rw [hepo] at hep HB1
      have HP := Lib.hid hep
      have hB : bo = some (max q 1) := HB1.out
      clear hep hepo HB1
      have e7 := HN2.out.c7
      rw [HW2.out, HW1.out] at e7
      generalize c.list = cl at *
      generalize c.forced = x9 at *
      generalize c.minChurn = x7 at *
      by_cases hq1 : q < 1
      · obtain rfl : q = 0 := by omega
        have HB : Hid (bo = some 1) := hB
        clear hB
        go_enter Try.func11, Try.ntmps11
        go_wp2_with fail
        refine HA.out.mono ?_
        rintro e w' ⟨rfl, rfl⟩
        go_wp2_with fail
        refine (HP.out _).mono ?_
        rintro e w' ⟨rfl, rfl⟩
        simp only [Pl.oV, Pl.oB, Option.getD_some, Option.isSome_some]
        go_wp2
        go_ret2
        exact ⟨by rw [HB.out]; rfl, by have h := HB2.out; rw [HW2.out, HW1.out] at h; exact h⟩
      · have HB : Hid (bo = some q) := by rw [Hid, hB]; congr 1; omega
        clear hB
        have hq2 : 1 ≤ q := by omega
        clear hq1
        go_enter Try.func11, Try.ntmps11
        go_wp2_with fail
        refine HA.out.mono ?_
        rintro e w' ⟨rfl, rfl⟩
        go_wp2_with fail
        refine (HP.out _).mono ?_
        rintro e w' ⟨rfl, rfl⟩
        simp only [Pl.oV, Pl.oB, Option.getD_some, Option.isSome_some]
        go_wp2
        go_ret2
        exact ⟨by rw [HB.out]; rfl, by have h := HB2.out; rw [HW2.out, HW1.out] at h; exact h⟩
    · rw [if_neg hq] at hepo
      rw [hepo] at hep HB1
      have HP := Lib.hid hep
      have HB : Hid (bo = none) := HB1.out
      clear hep hepo HB1 hq
      have e7 := HN2.out.c7
      rw [HW2.out, HW1.out] at e7
      generalize c.list = cl at *
      generalize c.forced = x9 at *
      generalize c.minChurn = x7 at *
      go_enter Try.func11, Try.ntmps11
      go_wp2_with fail
      refine HA.out.mono ?_
      rintro e w' ⟨rfl, rfl⟩
      go_wp2_with fail
      refine (HP.out _).mono ?_
      rintro e w' ⟨rfl, rfl⟩
      simp only [Pl.oV, Pl.oB, Option.getD_none, Option.isSome_none]
      go_wp2
      go_ret2
      exact ⟨by rw [HB.out]; rfl, by have h := HB2.out; rw [HW2.out, HW1.out] at h; exact h⟩

set_option maxHeartbeats 800000 in
theorem refboundaries_any (a wt : Int) (c : Cfg) (w : World) (h0 : 0 ≤ a) (h1 : a ≤ 18446744073709551615) (g0 : 0 ≤ wt) (g1 : wt ≤ 18446744073709551615) (hf0 : 0 ≤ c.forced) (hf1 : c.forced ≤ 18446744073709551615) (hm0 : 1 ≤ c.minChurn) (hm1 : c.minChurn ≤ 18446744073709551615) :
    Calls Try.prog 12 #[.int .u64 a, .int .u64 wt, .agg c.list.toArray] w (Ans (Pl.bnd a wt c.forced c.minChurn) w) := by
  have hn := CfgAt.new w c
  have e9 := hn.c9
  obtain ⟨w1, hw1⟩ : ∃ w1, w1 = w.alloc (.cells c.list.toArray 26) := ⟨_, rfl⟩
  have hI := new_intsk w1 .u64 22 [a, wt, c.forced]
  obtain ⟨w2, hw2⟩ : ∃ w2, w2 = w1.alloc (.cells #[.int .u64 a, .int .u64 wt, .int .u64 c.forced] 22) := ⟨_, rfl⟩
  have hn2 : CfgAt w2 w.heap.size c := by rw [hw2, hw1]; exact hn.below ((Below.refl _ _).alloc (Nat.le_refl _) _)
  have hB2 : Below w.heap.size w w2 := by rw [hw2, hw1]; exact ((Below.refl _ _).alloc (Nat.le_refl _) _).alloc (by simp) _
  have hbnd : Pl.bnd a wt c.forced c.minChurn = if 18446744073709551615 < a + wt + c.forced then none else (Pl.epo (a + wt + c.forced) c.minChurn).map fun n => max n 1 := rfl
  have hsum : ([a, wt, c.forced] : List Int).sum = a + wt + c.forced := by simp; omega
  have hin : ∀ x ∈ [a, wt, c.forced], 0 ≤ x ∧ x ≤ 18446744073709551615 := by
    intro x hx
    simp at hx
    rcases hx with rfl | rfl | rfl
    · exact ⟨h0, h1⟩
    · exact ⟨g0, g1⟩
    · exact ⟨hf0, hf1⟩
  have hI2 : Ints w2 .u64 (some ⟨w1.heap.size, 0, none⟩) 3 [a, wt, c.forced] := by rw [hw2]; exact hI
  have hz1 : w1.heap.size = w.heap.size + 1 := by rw [hw1]; simp
  rw [hz1] at hI2
  have HW1 := Lib.hid hw1
  have HW2 := Lib.hid hw2
  have HB2 := Lib.hid hB2
  have HN2 := Lib.hid hn2
  have HB0 := Lib.hid hbnd
  have e7 := HN2.out.c7
  by_cases hS : 18446744073709551615 < a + wt + c.forced
  · have HA := Lib.hid (refadd_over (some ⟨w.heap.size + 1, 0, none⟩) 3 3 [a, wt, c.forced] w2 (by omega) hI2 hin (by rw [hsum]; exact hS))
    have HB : Hid (Pl.bnd a wt c.forced c.minChurn = none) := by rw [Hid, HB0.out, if_pos hS]
    rw [hw2, hw1] at HA
    clear hn hI hn2 hB2 hbnd hsum hin hI2 hw1 hw2 hz1 hS e7 h0 h1 g0 g1 hf0 hf1 hm0 hm1
    generalize c.list = cl at *
    generalize c.forced = x9 at *
    go_enter Try.func12, Try.ntmps12
    go_wp2_with fail
    refine HA.out.mono ?_
    rintro e w' ⟨rfl, m, rfl⟩
    go_wp2
    go_ret2
    exact ⟨by rw [HB.out]; rfl, by have h := HB2.out; rw [HW2.out, HW1.out] at h; exact h.trans ((drewN_below _ _).mono h.size)⟩
  · have hsn : 0 ≤ a + wt + c.forced := by omega
    have hsm : a + wt + c.forced ≤ 18446744073709551615 := by omega
    have HA := Lib.hid (refadd_fits (some ⟨w.heap.size + 1, 0, none⟩) 3 3 [a, wt, c.forced] w2 (by omega) hI2 hin (by rw [hsum]; exact hsm))
    rw [hsum] at HA
    have hep := fun w => refepochs_any (a + wt + c.forced) c.minChurn w hsn hsm hm0 hm1
    have hq0 := Pl.cd_nonneg (a + wt + c.forced) c.minChurn hm0 hsn
    have hepo : Pl.epo (a + wt + c.forced) c.minChurn = if Pl.cd (a + wt + c.forced) c.minChurn ≤ 1099511627776 then some (Pl.cd (a + wt + c.forced) c.minChurn) else none := rfl
    generalize Pl.cd (a + wt + c.forced) c.minChurn = q at hq0 hepo
    have HB1 : Hid (Pl.bnd a wt c.forced c.minChurn = (Pl.epo (a + wt + c.forced) c.minChurn).map fun n => max n 1) := by rw [Hid, HB0.out, if_neg hS]
    generalize hsv : a + wt + c.forced = s at HA hep hepo HB1
    generalize hbo : Pl.bnd a wt c.forced c.minChurn = bo at HB1 ⊢
    rw [hw2, hw1] at HA
    clear hn hI hn2 hB2 hbnd hsum hin hI2 hw1 hw2 hz1 hS hsv HB0 hbo hsn hsm e7 h0 h1 g0 g1 hf0 hf1 hm0 hm1
    by_cases hq : q ≤ 1099511627776
    · rw [if_pos hq] at hepo
      rw [hepo] at hep HB1
      have HP := Lib.hid hep
      have hB : bo = some (max q 1) := HB1.out
      clear hep hepo HB1
      have e7 := HN2.out.c7
      rw [HW2.out, HW1.out] at e7
      generalize c.list = cl at *
      generalize c.forced = x9 at *
      generalize c.minChurn = x7 at *
      by_cases hq1 : q < 1
      · obtain rfl : q = 0 := by omega
        have HB : Hid (bo = some 1) := hB
        clear hB
        go_enter Try.func12, Try.ntmps12
        go_wp2_with fail
        refine HA.out.mono ?_
        rintro e w' ⟨rfl, m, rfl⟩
        go_wp2_with fail
        refine (HP.out _).mono ?_
        rintro e w' ⟨rfl, rfl⟩
        simp only [Pl.oV, Pl.oB, Option.getD_some, Option.isSome_some]
        go_wp2
        go_ret2
        exact ⟨by rw [HB.out]; rfl, by have h := HB2.out; rw [HW2.out, HW1.out] at h; exact h.trans ((drewN_below _ _).mono h.size)⟩
      · have HB : Hid (bo = some q) := by rw [Hid, hB]; congr 1; omega
        clear hB
        have hq2 : 1 ≤ q := by omega
        clear hq1
        go_enter Try.func12, Try.ntmps12
        go_wp2_with fail
        refine HA.out.mono ?_
        rintro e w' ⟨rfl, m, rfl⟩
        go_wp2_with fail
        refine (HP.out _).mono ?_
        rintro e w' ⟨rfl, rfl⟩
        simp only [Pl.oV, Pl.oB, Option.getD_some, Option.isSome_some]
        go_wp2
        go_ret2
        exact ⟨by rw [HB.out]; rfl, by have h := HB2.out; rw [HW2.out, HW1.out] at h; exact h.trans ((drewN_below _ _).mono h.size)⟩
    · rw [if_neg hq] at hepo
      rw [hepo] at hep HB1
      have HP := Lib.hid hep
      have HB : Hid (bo = none) := HB1.out
      clear hep hepo HB1 hq
      have e7 := HN2.out.c7
      rw [HW2.out, HW1.out] at e7
      generalize c.list = cl at *
      generalize c.forced = x9 at *
      generalize c.minChurn = x7 at *
      go_enter Try.func12, Try.ntmps12
      go_wp2_with fail
      refine HA.out.mono ?_
      rintro e w' ⟨rfl, m, rfl⟩
      go_wp2_with fail
      refine (HP.out _).mono ?_
      rintro e w' ⟨rfl, rfl⟩
      simp only [Pl.oV, Pl.oB, Option.getD_none, Option.isSome_none]
      go_wp2
      go_ret2
      exact ⟨by rw [HB.out]; rfl, by have h := HB2.out; rw [HW2.out, HW1.out] at h; exact h.trans ((drewN_below _ _).mono h.size)⟩

end Go.Proofs.Ytmihnoiofbfbhaa
