/- The ring of integers: the walk of Pop. -/
import Derived.Test.YtlfciaiaamcopaaRgB
import Derived.StillTailTactics
namespace Go.Proofs.Ytlfciaiaamcopaa
open Go.RowKit

set_option maxHeartbeats 400000 in
theorem pop_none {w : World} {b size : Nat} {og : Option Nat} (h : RingI w b og size []) :
    Calls Try.prog 11 #[.pointer (some ⟨b, 0, none⟩)] w fun e w' => e = .returned (.tuple #[.int .i64 0, .bool false]) ∧ w = w' := by
  have H := Lib.hid (peek_out h 0 (by simp))
  clear h
  go_enter Try.func11, Try.ntmps11
  go_wp2_with fail
  refine H.out.mono ?_
  rintro e w' ⟨rfl, rfl⟩
  go_wp2
  go_ret2
  exact ⟨rfl, rfl⟩

set_option maxHeartbeats 400000 in
theorem pop_core {w : World} {b g c f n y : Nat} {x : Int} (hy : y = (f + 1) % c) (hp : Calls Try.prog 21 #[.pointer (some ⟨b, 0, none⟩), .int .i64 (0 : Nat)] w fun e w' => e = .returned (.tuple #[.int .i64 x, .bool true]) ∧ ∃ m, w' = w.drewN m)
    (hc : c ≤ 1048576) (hf : f < c) (hn : 0 < n) (hn2 : n ≤ c) (hne : g ≠ b)
    (e0 : w.cell? ⟨b, 0, none⟩ = some (.slice (some ⟨g, 0, none⟩) c c)) (e2 : w.cell? ⟨b, 2, none⟩ = some (.int .i64 f)) (e3 : w.cell? ⟨b, 3, none⟩ = some (.int .i64 n))
    (f2 : w.frozen? ⟨b, 2, none⟩ = false) (f3 : w.frozen? ⟨b, 3, none⟩ = false) (ea : w.cell? ⟨g, f, none⟩ = some (.int .i64 x)) (fa : w.frozen? ⟨g, f, none⟩ = false) :
    Calls Try.prog 11 #[.pointer (some ⟨b, 0, none⟩)] w fun e w' => e = .returned (.tuple #[.int .i64 x, .bool true]) ∧
      ∃ m, w' = (((w.setCell ⟨g, f, none⟩ (.int .i64 0)).setCell ⟨b, 2, none⟩ (.int .i64 (y : Nat))).setCell ⟨b, 3, none⟩ (.int .i64 ((n - 1 : Nat)))).drewN m := by
  have H := Lib.hid hp
  clear hp
  go_enter Try.func11, Try.ntmps11
  go_wp2_with fail
  refine H.out.mono ?_
  rintro e w' ⟨rfl, m, rfl⟩
  have i1 : (0 : Int) ≤ (f : Int) := by omega
  have i2 : (f : Int) < (c : Int) := by omega
  go_wp2
  refine wp_region_tail 10 (by kernel_rfl) (by kernel_rfl) ?_
  simp only [List.take_succ_cons, List.take_zero, List.drop_succ_cons, List.drop_zero]
  repeat still_step
  refine wpStill_nil ?_
  have hne' : ¬ b = g := fun h => hne h.symm
  have w1 : IntKind.i64.wrap ((f : Int) + 1) = ((f + 1 : Nat) : Int) := by rw [IntWalk.i64_in _ (by omega)]; omega
  have hmod : (f + 1) % c < c := Nat.mod_lt _ (by omega)
  have t1 : Int.tmod ((f + 1 : Nat) : Int) (c : Int) = (((f + 1) % c : Nat) : Int) := by rw [Int.tmod_eq_emod_of_nonneg (by omega)]; rfl
  have hc0 : ((c : Int) == 0) = false := by rw [beq_eq_false_iff_ne]; omega
  have hc1 : ¬ c = 0 := by omega
  have w2 : IntKind.i64.wrap (((f + 1) % c : Nat) : Int) = (((f + 1) % c : Nat) : Int) := IntWalk.i64_in _ (by omega)
  have hn1 : ((n : Int) - 1) = ((n - 1 : Nat) : Int) := by omega
  rw [← hy] at hmod t1 w2
  clear hy
  generalize f + 1 = z at *
  go_wp2
  refine wp_region_tail 14 (by kernel_rfl) (by kernel_rfl) ?_
  simp only [List.take_succ_cons, List.take_zero, List.drop_succ_cons, List.drop_zero]
  repeat still_step
  refine wpStill_nil ?_
  clear w1 t1 hc0 w2
  go_wp2
  go_ret2
  exact ⟨rfl, m + 2, rfl⟩

theorem head_mod {f i c : Nat} : (((f + 1) % c) + i) % c = (f + (i + 1)) % c := by
  rw [Nat.add_mod ((f + 1) % c) i c, Nat.mod_mod, ← Nat.add_mod]
  congr 1
  omega

theorem ne_mod {f i j c : Nat} (hf : f < c) (hi : i < c) (hj : j < c) (hij : i ≠ j) : (f + i) % c ≠ (f + j) % c := by
  intro h
  rcases Nat.lt_or_ge (f + i) c with h1 | h1 <;> rcases Nat.lt_or_ge (f + j) c with h2 | h2
  · rw [Nat.mod_eq_of_lt h1, Nat.mod_eq_of_lt h2] at h; omega
  · rw [Nat.mod_eq_of_lt h1, Nat.mod_eq_sub_mod h2, Nat.mod_eq_of_lt (by omega)] at h; omega
  · rw [Nat.mod_eq_of_lt h2, Nat.mod_eq_sub_mod h1, Nat.mod_eq_of_lt (by omega)] at h; omega
  · rw [Nat.mod_eq_sub_mod h1, Nat.mod_eq_sub_mod h2, Nat.mod_eq_of_lt (by omega), Nat.mod_eq_of_lt (by omega)] at h; omega

theorem pop_some {w : World} {b size : Nat} {og : Option Nat} {x : Int} {L : List Int} (h : RingI w b og size (x :: L)) :
    Calls Try.prog 11 #[.pointer (some ⟨b, 0, none⟩)] w fun e w' => e = .returned (.tuple #[.int .i64 x, .bool true]) ∧ RingI w' b og size L ∧ Only w w' (Of b og) := by
  have hp := peek_in h 0 (by simp)
  simp only [List.getElem_cons_zero] at hp
  have hs := h.1
  rcases h.2 with ⟨_, h2, _⟩ | ⟨g, c, f, arr, hog, hg⟩
  · cases h2
  · have hn := hg.nle
    have hc := hg.cle
    have hf := hg.flt
    have hne := hg.ne
    have hsz := hg.asz
    have h0 := hg.at_ 0 (by simp)
    simp only [Nat.add_zero, Nat.mod_eq_of_lt hf, List.getElem_cons_zero] at h0
    refine (pop_core (y := (f + 1) % c) (n := (x :: L).length) rfl hp (by omega) hf (by simp) hn hne (by rw [blk_cell hg.str]; rfl) (by rw [blk_cell hg.str]; rfl) (by rw [blk_cell hg.str]; rfl) (blk_frozen hg.str _) (blk_frozen hg.str _) (by rw [blk_cell hg.row]; exact h0) (blk_frozen hg.row _)).mono ?_
    rintro e w' ⟨rfl, m, rfl⟩
    have hmod : (f + 1) % c < c := Nat.mod_lt _ (by omega)
    refine ⟨rfl, ⟨hs, .inr ⟨g, c, (f + 1) % c, arr.setIfInBounds f (.int .i64 0), hog, ⟨hne, ?_, ?_, by simpa using hsz, hmod, by simp at hn; omega, hc, ?_, ?_⟩⟩⟩, ?_⟩
    · have s1 := (blk_far (w := w) (Ne.symm hne) f (.int .i64 0)).trans hg.str
      have s2 := blk_set (blk_set s1 2 (.int .i64 ((f + 1) % c : Nat))) 3 (.int .i64 ((x :: L).length - 1 : Nat))
      refine s2.trans ?_
      simp
    · have s1 := blk_set hg.row f (.int .i64 0)
      have s2 := (blk_far (w := w.setCell ⟨g, f, none⟩ (.int .i64 0)) hne 2 (.int .i64 ((f + 1) % c : Nat))).trans s1
      exact (blk_far (w := (w.setCell ⟨g, f, none⟩ (.int .i64 0)).setCell ⟨b, 2, none⟩ (.int .i64 ((f + 1) % c : Nat))) hne 3 (.int .i64 ((x :: L).length - 1 : Nat))).trans s2
    · intro i hi
      have := hg.at_ (i + 1) (by simp; omega)
      simp only [List.getElem_cons_succ] at this
      simp at hn
      rw [head_mod, Array.getElem?_setIfInBounds, if_neg, this]
      intro e
      have := ne_mod (i := i + 1) (j := 0) hf (by omega) (by omega) (by omega)
      have e0 : (f + 0) % c = f := Nat.mod_eq_of_lt hf
      rw [e0] at this
      exact this e.symm
    · intro i hi
      rw [Array.getElem?_setIfInBounds]
      by_cases e : f = i
      · rw [if_pos e, if_pos (by omega)]; exact ⟨0, rfl⟩
      · rw [if_neg e]; exact hg.vals i hi
    · have F : ∀ k, (k = b ∨ k = g) → Of b og k := by
        rintro k (rfl | rfl)
        · exact .inl rfl
        · exact .inr hog
      have o1 := Only.setCell w (a := ⟨g, f, none⟩) (.int .i64 0) (F := Of b og) (F _ (.inr rfl))
      have o2 := Only.setCell (w.setCell ⟨g, f, none⟩ (.int .i64 0)) (a := ⟨b, 2, none⟩) (.int .i64 ((f + 1) % c : Nat)) (F := Of b og) (F _ (.inl rfl))
      have o3 := Only.setCell ((w.setCell ⟨g, f, none⟩ (.int .i64 0)).setCell ⟨b, 2, none⟩ (.int .i64 ((f + 1) % c : Nat))) (a := ⟨b, 3, none⟩) (.int .i64 ((x :: L).length - 1 : Nat)) (F := Of b og) (F _ (.inl rfl))
      exact ((o1.trans o2 (fun _ h => h) (fun _ _ h => h)).trans o3 (fun _ h => h) (fun _ _ h => h)).trans (Only.drewN _ m (Of b og)) (fun _ h => h) (fun _ _ h => h)

end Go.Proofs.Ytlfciaiaamcopaa
