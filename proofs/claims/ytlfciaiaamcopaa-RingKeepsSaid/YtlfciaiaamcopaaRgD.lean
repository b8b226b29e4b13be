/- The ring of integers: the walk of grow. -/
import Derived.Test.YtlfciaiaamcopaaRgC
import Derived.Laws.CopyOwn
namespace Go.Proofs.Ytlfciaiaamcopaa
open Go.RowKit

theorem Try.infoI : (Try.prog.info? 3).map (fun i => (i.zero, i.size, i.bytes)) = some (some (.int .i64 0), 1, 8) := by kernel_rfl
theorem Try.sizeI : (Try.prog.info? 3).map (·.size) = some 1 := by kernel_rfl

set_option maxHeartbeats 400000 in
/-- There is room: nothing happens. -/
theorem grow_room {w : World} {b : Nat} {A : Option Addr} {c n : Nat} (e0 : w.cell? ⟨b, 0, none⟩ = some (.slice A c c)) (e3 : w.cell? ⟨b, 3, none⟩ = some (.int .i64 n)) (hn : n < c) :
    Calls Try.prog 27 #[.pointer (some ⟨b, 0, none⟩)] w fun e w' => e = .returned (.tuple #[]) ∧ ∃ m, w' = w.drewN m := by
  have h1 : (n : Int) < (c : Int) := by omega
  go_enter Try.func27, Try.ntmps27
  go_wp2
  go_quiet (fail)
  go_wp2
  refine bodyPost_ret (results_none rfl _ _ _) rfl ?_
  exact ⟨rfl, _, rfl⟩

theorem made_heap {w : World} {g n : Nat} (h : w.ownsRow g 3 1 (.slice (some ⟨g, 0, none⟩) n n) n (madeCells #[Value.int .i64 0] n).toList) :
    w.heap[g]? = some (.cells (List.replicate n (Value.int .i64 0)).toArray 3 (0, 0)) := by
  rcases h.2 with ⟨h1, _⟩ | ⟨g', cap, cur, hv, _, hh, _, _, hsz, ht⟩
  · cases h1
  · injection hv with h1 _ h3
    injection h1 with h1
    injection h1 with h1
    subst h1; subst h3
    rw [hh]
    have hl : cur.toList.length = n := by simpa using hsz
    rw [Nat.mul_one, List.take_of_length_le (by omega)] at ht
    have : cur = (List.replicate n (Value.int .i64 0)).toArray := by
      apply Array.toList_inj.1
      rw [ht]
      apply List.ext_getElem <;> simp [madeCells, Nat.mod_one]
    rw [this]

/-- What grow leaves: the world before the last two stores, and the new array. -/
def GrowPost (w : World) (b nc k : Nat) (Z A1 A2 : List Value) (e : Ending) (w' : World) : Prop :=
  e = .returned (.tuple #[]) ∧ ∃ w3 m, w' = ((w3.setCell ⟨b, 0, none⟩ (.slice (some ⟨w.heap.size, 0, none⟩) nc nc)).setCell ⟨b, 2, none⟩ (.int .i64 0)).drewN m ∧
    w3.heap[w.heap.size]? = some (.cells (splice (splice Z 0 A1) k A2).toArray 3 (0, 0)) ∧ Below w.heap.size w w3

set_option maxHeartbeats 800000 in
theorem grow_core {w : World} {b g c f k size nc : Nat} {A1 A2 : List Value} (hk : k = c - f) (hnc : nc = min size (2 * c + 1)) (hcs : c < size) (hs : size ≤ 1048576) (hf : f < c) (hne : g ≠ b)
    (e0 : w.cell? ⟨b, 0, none⟩ = some (.slice (some ⟨g, 0, none⟩) c c)) (e1 : w.cell? ⟨b, 1, none⟩ = some (.int .i64 size)) (e2 : w.cell? ⟨b, 2, none⟩ = some (.int .i64 f)) (e3 : w.cell? ⟨b, 3, none⟩ = some (.int .i64 c))
    (f0 : w.frozen? ⟨b, 0, none⟩ = false) (f2 : w.frozen? ⟨b, 2, none⟩ = false)
    (hA1 : A1.length = k) (hA2 : A2.length = f) (s1 : ∀ j v, A1[j]? = some v → w.cell? ⟨g, f + j, none⟩ = some v) (s2 : ∀ j v, A2[j]? = some v → w.cell? ⟨g, j, none⟩ = some v)
    (o1 : ∀ v ∈ A1, v.oneCell' = true) (o2 : ∀ v ∈ A2, v.oneCell' = true) :
    Calls Try.prog 27 #[.pointer (some ⟨b, 0, none⟩)] w (GrowPost w b nc k (List.replicate nc (.int .i64 0)) A1 A2) := by
  have w1 : IntKind.i64.wrap (2 * (c : Int)) = 2 * (c : Int) := IntWalk.i64_in _ (by omega)
  have w2 : IntKind.i64.wrap (2 * (c : Int) + 1) = 2 * (c : Int) + 1 := IntWalk.i64_in _ (by omega)
  have hm : (if 2 * (c : Int) + 1 < (size : Int) then 2 * (c : Int) + 1 else (size : Int)) = (nc : Int) := by split <;> omega
  have hnc1 : c < nc := by omega
  have hnc2 : nc ≤ 1048576 := by omega
  obtain ⟨i0, hi, hz0, hz1, hz2⟩ := info_parts Try.infoI
  have hcc : ¬ ((c : Int) < (c : Int)) := by omega
  have HN := Lib.hid hnc
  have HK := Lib.hid hk
  have HS1 := Lib.hid s1
  have HS2 := Lib.hid s2
  have HA1 := Lib.hid hA1
  have HA2 := Lib.hid hA2
  have HO1 := Lib.hid o1
  have HO2 := Lib.hid o2
  have HI := Lib.hid (And.intro hi (And.intro hz0 (And.intro hz1 hz2)))
  have HE0 := Lib.hid e0
  have HE2 := Lib.hid e2
  have HF0 := Lib.hid f0
  have HF2 := Lib.hid f2
  have hbl : b < w.heap.size := World.block_lt_of_cell? w _ e0
  clear hnc hk s1 s2 hA1 hA2 hi hz0 hz1 hz2 o1 o2
  go_enter Try.func27, Try.ntmps27
  go_wp2
  go_quiet (fail)
  go_wp2
  refine wp_region_tail 12 (by kernel_rfl) (by kernel_rfl) ?_
  simp only [List.take_succ_cons, List.take_zero, List.drop_succ_cons, List.drop_zero]
  repeat still_step
  refine wpStill_nil ?_
  clear w1 w2 hm
  go_wp2_with (at_make; go_must (refine wpList_make_full _ rfl (.tmp 25) (.tmp 25) 22 rfl w.heap.size 3 i0 (.int .i64 0) 1 Try.underlying22 HI.out.1 HI.out.2.1 HI.out.2.2.1 .i64 .i64 _ _ nc rfl rfl rfl rfl (by rw [HI.out.2.2.2]; omega) (by unfold maxLen; omega) (by simp) ?_))
  intro wA hownA hgA
  have hbA : Below w.heap.size w wA := (Below.refl _ w).trans ⟨hgA.os, hgA.tape, hgA.output, hgA.size, fun k hk => hgA.block k hk (by simp)⟩
  clear e0 e1 e2 e3 f0 f2
  have e0 := (hbA.cell (p := ⟨b, 0, none⟩) hbl).trans HE0.out
  have e2 := (hbA.cell (p := ⟨b, 2, none⟩) hbl).trans HE2.out
  have f0 := (hbA.frozen (p := ⟨b, 0, none⟩) hbl).trans HF0.out
  have f2 := (hbA.frozen (p := ⟨b, 2, none⟩) hbl).trans HF2.out
  have HG := Lib.hid (made_heap hownA)
  have HBA := Lib.hid hbA
  clear hownA hgA hbA
  have hff : (f : Int) ≤ (c : Int) := by omega
  have hff2 : ¬ c = f := by omega
  have hff3 : (0 : Int) ≤ (f : Int) := by omega
  go_wp2
  refine wp_region_tail 10 (by kernel_rfl) (by kernel_rfl) ?_
  simp only [List.take_succ_cons, List.take_zero, List.drop_succ_cons, List.drop_zero]
  repeat still_step
  refine wpStill_nil ?_
  have hgl : g < w.heap.size := by
    rcases Nat.eq_zero_or_pos (c - f) with h | h
    · omega
    · have h0 := HS1.out 0 (A1[0]'(by rw [HA1.out, HK.out]; exact h)) (List.getElem?_eq_getElem _)
      exact World.block_lt_of_cell? w _ h0
  have hl1 : A1.length = c - f := by rw [HA1.out, HK.out]
  have HL1 := Lib.hid hl1
  clear hl1
  refine (wpList_copy_splice (w := wA.drew) rfl (.tmp 27) (.tmp 36) 22 22 rfl 3 Try.underlying22 Try.sizeI _ _ nc nc (c - f) (c - f) rfl rfl w.heap.size 0 _ 3 HG.out A1 (by rw [HL1.out]; exact (Nat.min_eq_left (by omega)).symm) (fun _ => ⟨rfl, ⟨g, f, none⟩, rfl, fun j v hj => by rw [add_off]; exact (HBA.out.cell (p := ⟨g, f + j, none⟩) hgl).trans (HS1.out j v hj)⟩) (by rw [HL1.out]; simp; omega) HO1.out w.heap.size w HBA.out.drew (Nat.le_refl _) ?_)
  intro wB HGB hbB
  rw [HA1.out]
  have e0' := (hbB.cell (p := ⟨b, 0, none⟩) hbl).trans HE0.out
  have e2' := (hbB.cell (p := ⟨b, 2, none⟩) hbl).trans HE2.out
  have f0' := (hbB.frozen (p := ⟨b, 0, none⟩) hbl).trans HF0.out
  have f2' := (hbB.frozen (p := ⟨b, 2, none⟩) hbl).trans HF2.out
  have HBB := Lib.hid hbB
  clear hbB HBA HG e0 e2 f0 f2
  have hkn : k < nc := by have := HK.out; omega
  have hkn1 : (0 : Int) ≤ (k : Int) := by omega
  have hkn2 : (k : Int) ≤ (nc : Int) := by omega
  have hkn3 : ¬ nc = k := by omega
  go_wp2
  refine wp_region_tail 12 (by kernel_rfl) (by kernel_rfl) ?_
  simp only [List.take_succ_cons, List.take_zero, List.drop_succ_cons, List.drop_zero]
  repeat still_step
  refine wpStill_nil ?_
  have hfk : f ≤ nc - k := by have := HK.out; omega
  refine (wpList_copy_splice (w := wB.drew) rfl (.tmp 40) (.tmp 49) 22 22 rfl 3 Try.underlying22 Try.sizeI (some ⟨w.heap.size, k, none⟩) (some ⟨g, 0, none⟩) (nc - k) (nc - k) f c rfl rfl w.heap.size k _ 3 HGB.out A2 (by rw [HA2.out]; exact (Nat.min_eq_left hfk).symm) (fun _ => ⟨rfl, ⟨g, 0, none⟩, rfl, fun j v hj => by rw [add_off, Nat.zero_add]; exact (HBB.out.cell (p := ⟨g, j, none⟩) hgl).trans (HS2.out j v hj)⟩) (by rw [HA2.out, length_splice _ _ _ (by rw [HA1.out]; simp; omega)]; simp; omega) HO2.out w.heap.size w HBB.out.drew (Nat.le_refl _) ?_)
  intro wC HGC hbC
  have e0 := (hbC.cell (p := ⟨b, 0, none⟩) hbl).trans HE0.out
  have e2 := (hbC.cell (p := ⟨b, 2, none⟩) hbl).trans HE2.out
  have f0 := (hbC.frozen (p := ⟨b, 0, none⟩) hbl).trans HF0.out
  have f2 := (hbC.frozen (p := ⟨b, 2, none⟩) hbl).trans HF2.out
  have HBC := Lib.hid hbC
  clear hbC HBB HGB e0' e2' f0' f2'
  go_wp2
  refine bodyPost_end (results_none rfl _ _ _) rfl ?_
  exact ⟨rfl, wC, 0, rfl, HGC.out, HBC.out⟩

set_option maxHeartbeats 800000 in
theorem grow_nil {w : World} {b size : Nat} (hs1 : 1 ≤ size) (hs : size ≤ 1048576)
    (e0 : w.cell? ⟨b, 0, none⟩ = some (.slice none 0 0)) (e1 : w.cell? ⟨b, 1, none⟩ = some (.int .i64 size)) (e2 : w.cell? ⟨b, 2, none⟩ = some (.int .i64 0)) (e3 : w.cell? ⟨b, 3, none⟩ = some (.int .i64 0))
    (f0 : w.frozen? ⟨b, 0, none⟩ = false) (f2 : w.frozen? ⟨b, 2, none⟩ = false) :
    Calls Try.prog 27 #[.pointer (some ⟨b, 0, none⟩)] w (GrowPost w b 1 0 (List.replicate 1 (.int .i64 0)) [] []) := by
  have w1 : IntKind.i64.wrap 0 = 0 := by decide
  have w2 : IntKind.i64.wrap 1 = 1 := by decide
  have hm : (if (1 : Int) < (size : Int) then (1 : Int) else (size : Int)) = 1 := by split <;> omega
  have HM := Lib.hid hm
  obtain ⟨i0, hi, hz0, hz1, hz2⟩ := info_parts Try.infoI
  have HI := Lib.hid (And.intro hi (And.intro hz0 (And.intro hz1 hz2)))
  have HE0 := Lib.hid e0
  have HE2 := Lib.hid e2
  have HF0 := Lib.hid f0
  have HF2 := Lib.hid f2
  have hbl : b < w.heap.size := World.block_lt_of_cell? w _ e0
  clear hi hz0 hz1 hz2
  go_enter Try.func27, Try.ntmps27
  go_wp2
  go_quiet (fail)
  go_wp2
  refine wp_region_tail 12 (by kernel_rfl) (by kernel_rfl) ?_
  simp only [List.take_succ_cons, List.take_zero, List.drop_succ_cons, List.drop_zero]
  repeat still_step
  refine wpStill_nil ?_
  clear w1 w2 hm
  go_wp2_with (at_make; go_must (refine wpList_make_full _ rfl (.tmp 25) (.tmp 25) 22 rfl w.heap.size 3 i0 (.int .i64 0) 1 Try.underlying22 HI.out.1 HI.out.2.1 HI.out.2.2.1 .i64 .i64 _ _ 1 rfl rfl rfl rfl (by rw [HI.out.2.2.2]; omega) (by unfold maxLen; omega) (by simp) ?_))
  intro wA hownA hgA
  have hbA : Below w.heap.size w wA := (Below.refl _ w).trans ⟨hgA.os, hgA.tape, hgA.output, hgA.size, fun k hk => hgA.block k hk (by simp)⟩
  have HG := Lib.hid (made_heap hownA)
  have HBA := Lib.hid hbA
  clear hownA hgA hbA e0 e1 e2 e3 f0 f2
  have e0 := (HBA.out.cell (p := ⟨b, 0, none⟩) hbl).trans HE0.out
  have e2 := (HBA.out.cell (p := ⟨b, 2, none⟩) hbl).trans HE2.out
  go_wp2
  refine wp_region_tail 10 (by kernel_rfl) (by kernel_rfl) ?_
  simp only [List.take_succ_cons, List.take_zero, List.drop_succ_cons, List.drop_zero]
  repeat still_step
  refine wpStill_nil ?_
  refine (wpList_copy_splice (w := wA.drew) rfl (.tmp 27) (.tmp 36) 22 22 rfl 3 Try.underlying22 Try.sizeI _ _ 1 1 0 0 rfl rfl w.heap.size 0 _ 3 HG.out [] rfl (fun h => by simp at h) (by simp) (by simp) w.heap.size w HBA.out.drew (Nat.le_refl _) ?_)
  intro wB HGB hbB
  have e0' := (hbB.cell (p := ⟨b, 0, none⟩) hbl).trans HE0.out
  have e2' := (hbB.cell (p := ⟨b, 2, none⟩) hbl).trans HE2.out
  have HBB := Lib.hid hbB
  clear hbB HBA HG e0 e2
  go_wp2
  refine wp_region_tail 12 (by kernel_rfl) (by kernel_rfl) ?_
  simp only [List.take_succ_cons, List.take_zero, List.drop_succ_cons, List.drop_zero]
  repeat still_step
  refine wpStill_nil ?_
  refine (wpList_copy_splice (w := wB.drew) rfl (.tmp 40) (.tmp 49) 22 22 rfl 3 Try.underlying22 Try.sizeI _ _ 1 1 0 0 rfl rfl w.heap.size 0 _ 3 HGB.out [] rfl (fun h => by simp at h) (by simp [splice]) (by simp) w.heap.size w HBB.out.drew (Nat.le_refl _) ?_)
  intro wC HGC hbC
  have e0 := (hbC.cell (p := ⟨b, 0, none⟩) hbl).trans HE0.out
  have e2 := (hbC.cell (p := ⟨b, 2, none⟩) hbl).trans HE2.out
  have f0 := (hbC.frozen (p := ⟨b, 0, none⟩) hbl).trans HF0.out
  have f2 := (hbC.frozen (p := ⟨b, 2, none⟩) hbl).trans HF2.out
  have HBC := Lib.hid hbC
  clear hbC HBB HGB e0' e2'
  go_wp2
  refine bodyPost_end (results_none rfl _ _ _) rfl ?_
  exact ⟨rfl, wC, 0, rfl, HGC.out, HBC.out⟩

end Go.Proofs.Ytlfciaiaamcopaa
