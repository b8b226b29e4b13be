/- Chapter 4: alive. -/
import Derived.Test.YtlfciaiaamcopaaRgG
namespace Go.Proofs.Ytlfciaiaamcopaa
open Go.RowKit

theorem ring_new (w : World) (n : Nat) (h0 : 1 ≤ n) (h1 : n ≤ 1048576) : RingI (w.alloc (.cells #[.slice none 0 0, .int .i64 n, .int .i64 0, .int .i64 0] 60)) w.heap.size none n [] :=
  ⟨⟨h0, h1⟩, .inl ⟨rfl, rfl, ⟨blk_new w _⟩⟩⟩

theorem RingI.alloc {w : World} {b size : Nat} {og : Option Nat} {L : List Int} (h : RingI w b og size L) (o : Obj) : RingI (w.alloc o) b og size L :=
  h.keep (Below.heap_alloc w o b h.lt) (fun g e => Below.heap_alloc w o g (h.glt g e))

theorem new_ints (w : World) (xs : List Int) : Ints (w.alloc (.cells (xs.map (Value.int .i64)).toArray 3)) .i64 (some ⟨w.heap.size, 0, none⟩) xs.length xs :=
  ⟨rfl, .inr ⟨w.heap.size, 0, rfl, fun j hj => by rw [Nat.zero_add, blk_cell (blk_new w _)]; simp [hj]⟩⟩

theorem of_new {w : World} {b size k : Nat} {og : Option Nat} {L : List Int} (h : RingI w b og size L) (hk : w.heap.size ≤ k) : ¬ Of b og k := by
  rintro (h1 | h1)
  · have := h.lt; omega
  · have := h.glt k h1; omega

/-- All that a ring is made of lies from B on. -/
def From (B b : Nat) (og : Option Nat) : Prop := B ≤ b ∧ ∀ g, og = some g → B ≤ g
theorem From.newer {B b : Nat} {w : World} {og og' : Option Nat} (h : From B b og) (k : Newer w og og') (hB : B ≤ w.heap.size) : From B b og' := by
  refine ⟨h.1, fun g hg => ?_⟩
  rcases k with rfl | rfl | ⟨g', rfl, hg'⟩
  · exact h.2 g hg
  · cases hg
  · injection hg with hg; omega
theorem From.below {B b : Nat} {w w' : World} {og : Option Nat} (h : From B b og) (ho : Only w w' (Of b og)) (hB : B ≤ w.heap.size) : Below B w w' :=
  ho.below hB (fun k hk hof => by
    rcases hof with rfl | e
    · have := h.1; omega
    · have := h.2 k e; omega)

set_option maxHeartbeats 800000 in
theorem alive_any (w : World) :
    Calls Try.prog 8 #[] w fun e w' => e = .returned (.bool true) ∧ Below w.heap.size w w' := by
  go_enter Try.func8, Try.ntmps8
  go_wp2_with fail
  refine (new_ok 2 w (by omega) (by omega)).mono ?_
  rintro e w1 ⟨rfl, hw1⟩
  have hR1 : RingI w1 w.heap.size none 2 [] := by rw [hw1]; exact ring_new w 2 (by omega) (by omega)
  have hB1 : Below w.heap.size w w1 := by rw [hw1]; exact (Below.refl _ _).alloc (Nat.le_refl _) _
  clear hw1
  have hb1 := hR1.lt
  have HN1 := Lib.hid (of_new hR1 (Nat.le_refl w1.heap.size))
  have HR1 := Lib.hid (hR1.alloc (.cells #[.int .i64 1, .int .i64 2, .int .i64 3] 3))
  have HB1 := Lib.hid (hB1.alloc hB1.size (.cells #[.int .i64 1, .int .i64 2, .int .i64 3] 3))
  have HI := Lib.hid (new_ints w1 [1, 2, 3])
  have hF : From w.heap.size w.heap.size none := ⟨Nat.le_refl _, fun g h => by cases h⟩
  clear hR1 hB1
  go_wp2_with fail
  refine (push_any (m := 3) (cs := 3) HR1.out HI.out (by omega) (by omega) (fun ad h => by cases h; exact HN1.out) (fun ad h => by cases h; simp)).mono ?_
  rintro e w2 ⟨rfl, og2, hN2, hR2, hO2⟩
  have hF2 := hF.newer hN2 HB1.out.size
  have HB2 := Lib.hid (HB1.out.trans (hF.below hO2 HB1.out.size))
  have HR2 : Hid (RingI w2 w.heap.size og2 2 (1 :: [2])) := hR2
  have HF2 := Lib.hid hF2
  clear hN2 hO2 hR2 hF2 HB1 HR1 HI
  go_wp2_with fail
  refine (pop_some HR2.out).mono ?_
  rintro e w3 ⟨rfl, hR3, hO3⟩
  have HR3 := Lib.hid hR3
  have HB3 := Lib.hid (HB2.out.trans (HF2.out.below hO3 HB2.out.size))
  clear hR3 hO3 HB2 HR2
  go_wp2_with fail
  refine (len_any HR3.out).mono ?_
  rintro e w4 ⟨rfl, rfl⟩
  go_wp2_with fail
  refine (free_any HR3.out).mono ?_
  rintro e w4 ⟨rfl, m, rfl⟩
  go_wp2_with fail
  go_ret
  exact ⟨rfl, HB3.out.trans (Only.below (Only.drewN w3 m (fun _ => False)) HB3.out.size (fun _ _ h => h))⟩

end Go.Proofs.Ytlfciaiaamcopaa
