/- The ring of integers: what grow means. -/
import Derived.Test.YtlfciaiaamcopaaRgD
namespace Go.Proofs.Ytlfciaiaamcopaa
open Go.RowKit

theorem splice_two {Z A1 A2 : List Value} {k : Nat} (hk : A1.length = k) : splice (splice Z 0 A1) k A2 = A1 ++ (A2 ++ Z.drop (k + A2.length)) := by
  subst hk
  have e1 : splice Z 0 A1 = A1 ++ Z.drop A1.length := by simp [splice]
  rw [e1]
  unfold splice
  rw [List.take_left, List.drop_append]
  simp

theorem rot_at {arr : Array Value} {Z : List Value} {f c i : Nat} (hsz : arr.size = c) (hf : f < c) (hi : i < c) :
    ((arr.toList.drop f) ++ (arr.toList.take f ++ Z))[i]? = arr[(f + i) % c]? := by
  have hl : arr.toList.length = c := by simpa using hsz
  rcases Nat.lt_or_ge (f + i) c with h | h
  · rw [List.getElem?_append_left (by rw [List.length_drop]; omega), List.getElem?_drop, Nat.mod_eq_of_lt h]; simp
  · rw [List.getElem?_append_right (by rw [List.length_drop]; omega), List.getElem?_append_left (by rw [List.length_drop, List.length_take]; omega), List.length_drop, List.getElem?_take, if_pos (by omega),
      Nat.mod_eq_sub_mod h, Nat.mod_eq_of_lt (by omega), hl]
    rw [show i - (c - f) = f + i - c from by omega]
    simp

/-- A ring with room for one more. -/
def Room (w : World) (b : Nat) (og : Option Nat) (size : Nat) (L : List Int) : Prop :=
  ∃ g c f arr, og = some g ∧ RG w b g c f size arr L ∧ L.length < c

theorem Room.ring {w : World} {b : Nat} {og : Option Nat} {size : Nat} {L : List Int} (h : Room w b og size L) (hs : 1 ≤ size ∧ size ≤ 1048576) : RingI w b og size L := by
  obtain ⟨g, c, f, arr, h1, h2, _⟩ := h
  exact ⟨hs, .inr ⟨g, c, f, arr, h1, h2⟩⟩

theorem grow_post {w w' : World} {b nc k size : Nat} {og : Option Nat} {L : List Int} {e : Ending} {Z A1 A2 : List Value} (hb : b < w.heap.size)
    (hp : GrowPost w b nc k Z A1 A2 e w') (hstr : ∃ x0 x2 : Value, w.heap[b]? = some (.cells #[x0, .int .i64 size, x2, .int .i64 L.length] 60 (0, 0)))
    (hk : A1.length = k) (hZ : k + A2.length ≤ Z.length) (hZn : Z.length = nc) (hlt : L.length < nc) (hns : nc ≤ size)
    (hat : ∀ i (h : i < L.length), (A1 ++ (A2 ++ Z.drop (k + A2.length)))[i]? = some (.int .i64 L[i]))
    (hv : ∀ v ∈ A1 ++ (A2 ++ Z.drop (k + A2.length)), ∃ x : Int, v = .int .i64 x) :
    e = .returned (.tuple #[]) ∧ Room w' b (some w.heap.size) size L ∧ Only w w' (Of b og) := by
  obtain ⟨he, w3, m, rfl, hG, hB⟩ := hp
  obtain ⟨x0, x2, hstr⟩ := hstr
  have hne : w.heap.size ≠ b := by omega
  have hlen : (A1 ++ (A2 ++ Z.drop (k + A2.length))).length = nc := by simp; omega
  refine ⟨he, ⟨w.heap.size, nc, 0, (splice (splice Z 0 A1) k A2).toArray, rfl, ⟨hne, ?_, ?_, ?_, by omega, by omega, hns, ?_, ?_⟩, hlt⟩, ?_⟩
  · have s0 := (hB.block b hb).trans hstr
    refine (blk_set (blk_set s0 0 _) 2 (.int .i64 0)).trans ?_
    simp
  · have s1 := (blk_far (w := w3) hne 0 (.slice (some ⟨w.heap.size, 0, none⟩) nc nc)).trans hG
    exact (blk_far (w := w3.setCell ⟨b, 0, none⟩ (.slice (some ⟨w.heap.size, 0, none⟩) nc nc)) hne 2 (.int .i64 0)).trans s1
  · rw [splice_two hk]; simpa using hlen
  · intro i hi
    rw [splice_two hk, Nat.zero_add, Nat.mod_eq_of_lt (by omega), List.getElem?_toArray]
    exact hat i hi
  · intro i hi
    rw [splice_two hk, List.getElem?_toArray]
    obtain ⟨x, hx⟩ := hv _ (List.getElem_mem (h := by rw [hlen]; exact hi))
    exact ⟨x, by rw [List.getElem?_eq_getElem (by rw [hlen]; exact hi), hx]⟩
  · have o0 : Only w w3 (Of b og) := Only.of_below hB (fun k h1 h2 => absurd h1 (by omega))
    have o1 := Only.setCell w3 (a := ⟨b, 0, none⟩) (.slice (some ⟨w.heap.size, 0, none⟩) nc nc) (F := Of b og) (.inl rfl)
    have o2 := Only.setCell (w3.setCell ⟨b, 0, none⟩ (.slice (some ⟨w.heap.size, 0, none⟩) nc nc)) (a := ⟨b, 2, none⟩) (.int .i64 0) (F := Of b og) (.inl rfl)
    exact ((o0.trans o1 (fun _ h => h) (fun _ _ h => h)).trans o2 (fun _ h => h) (fun _ _ h => h)).trans (Only.drewN _ m (Of b og)) (fun _ h => h) (fun _ _ h => h)

theorem grow_any {w : World} {b size : Nat} {og : Option Nat} {L : List Int} (h : RingI w b og size L) (hl : L.length < size) :
    Calls Try.prog 27 #[.pointer (some ⟨b, 0, none⟩)] w fun e w' => e = .returned (.tuple #[]) ∧ ∃ og', Newer w og og' ∧ Room w' b og' size L ∧ Only w w' (Of b og) := by
  have hs := h.1
  have hb := h.lt
  rcases h.2 with ⟨hog, hL, hg⟩ | ⟨g, c, f, arr, hog, hg⟩
  · subst hL
    refine (grow_nil (w := w) (b := b) (size := size) hs.1 hs.2 (by rw [blk_cell hg.str]; rfl) (by rw [blk_cell hg.str]; rfl) (by rw [blk_cell hg.str]; rfl) (by rw [blk_cell hg.str]; rfl) (blk_frozen hg.str _) (blk_frozen hg.str _)).mono ?_
    intro e w' hp
    obtain ⟨h1, h2, h3⟩ := grow_post (og := og) (size := size) (L := []) hb hp ⟨_, _, hg.str⟩ rfl (by simp) (by simp) (by simp) hs.1 (by simp) (by simp)
    exact ⟨h1, _, .inr (.inr ⟨_, rfl, Nat.le_refl _⟩), h2, h3⟩
  · by_cases hr : L.length < c
    · refine (grow_room (n := L.length) (c := c) (A := some ⟨g, 0, none⟩) (by rw [blk_cell hg.str]; rfl) (by rw [blk_cell hg.str]; rfl) hr).mono ?_
      rintro e w' ⟨rfl, m, rfl⟩
      exact ⟨rfl, og, .inl rfl, ⟨g, c, f, arr, hog, ⟨hg.ne, hg.str, hg.row, hg.asz, hg.flt, hg.nle, hg.cle, hg.at_, hg.vals⟩, hr⟩, Only.drewN _ _ _⟩
    · have hn := hg.nle
      have hf := hg.flt
      have hsz := hg.asz
      have hal : arr.toList.length = c := by simpa using hsz
      obtain rfl : c = L.length := by omega
      have hvs : ∀ v ∈ arr.toList, ∃ x : Int, v = .int .i64 x := by
        intro v hv
        obtain ⟨i, hi, rfl⟩ := List.getElem_of_mem hv
        obtain ⟨x, hx⟩ := hg.vals i (by omega)
        rw [Array.getElem?_eq_getElem (by simpa using hi)] at hx
        exact ⟨x, by simpa using hx⟩
      have one : ∀ v ∈ arr.toList, v.oneCell' = true := by
        intro v hv
        obtain ⟨x, rfl⟩ := hvs v hv
        rfl
      refine (grow_core (A1 := arr.toList.drop f) (A2 := arr.toList.take f) (k := L.length - f) (nc := min size (2 * L.length + 1)) rfl rfl hl hs.2 hf hg.ne (by rw [blk_cell hg.str]; rfl) (by rw [blk_cell hg.str]; rfl) (by rw [blk_cell hg.str]; rfl) (by rw [blk_cell hg.str]; rfl) (blk_frozen hg.str _) (blk_frozen hg.str _)
        (by rw [List.length_drop]; omega) (by rw [List.length_take]; omega) ?_ ?_ (fun v hv => one v (List.mem_of_mem_drop hv)) (fun v hv => one v (List.mem_of_mem_take hv))).mono ?_
      · intro j v hj
        rw [blk_cell hg.row]
        rw [List.getElem?_drop] at hj
        simpa using hj
      · intro j v hj
        rw [blk_cell hg.row]
        rw [List.getElem?_take] at hj
        split at hj
        · simpa using hj
        · cases hj
      · intro e w' hp
        obtain ⟨h1, h2, h3⟩ := grow_post (og := og) (size := size) (L := L) hb hp ⟨_, _, hg.str⟩ (by rw [List.length_drop]; omega) (by rw [List.length_take, List.length_replicate]; omega) (by simp) (by omega) (by omega)
          (fun i hi => by rw [rot_at hsz hf hi]; exact hg.at_ i hi)
          (fun v hv => by
            rcases List.mem_append.1 hv with h | h
            · exact hvs v (List.mem_of_mem_drop h)
            · rcases List.mem_append.1 h with h | h
              · exact hvs v (List.mem_of_mem_take h)
              · have := List.mem_of_mem_drop h
                simp at this
                exact ⟨0, this.2⟩)
        exact ⟨h1, _, .inr (.inr ⟨_, rfl, Nat.le_refl _⟩), h2, h3⟩

end Go.Proofs.Ytlfciaiaamcopaa
