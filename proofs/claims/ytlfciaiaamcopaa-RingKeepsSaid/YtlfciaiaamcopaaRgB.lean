/- The ring of integers: the walks of New, Len, Free, Peek. -/
import Derived.Test.YtlfciaiaamcopaaRows
import Derived.Test.YtlfciaiaamcopaaRgA
namespace Go.Proofs.Ytlfciaiaamcopaa
open Go.RowKit

set_option maxHeartbeats 400000 in
theorem new_ok (n : Int) (w : World) (h0 : 1 ≤ n) (h1 : n ≤ 1048576) :
    Calls Try.prog 9 #[.int .i64 n] w fun e w' => e = .returned (.pointer (some ⟨w.heap.size, 0, none⟩)) ∧ w' = w.alloc (.cells #[.slice none 0 0, .int .i64 n, .int .i64 0, .int .i64 0] 60) := by
  go_enter Try.func9, Try.ntmps9
  go_wp2
  go_ret
  exact ⟨rfl, rfl⟩

set_option maxHeartbeats 400000 in
theorem new_no (n : Int) (w : World) (h : n < 1 ∨ 1048576 < n) :
    Calls Try.prog 9 #[.int .i64 n] w fun e w' => e = .returned (.pointer none) ∧ w = w' := by
  rcases h with h | h
  · go_enter Try.func9, Try.ntmps9
    go_wp2
    go_ret
    exact ⟨rfl, rfl⟩
  · have h' : ¬ n < 1 := by omega
    go_enter Try.func9, Try.ntmps9
    go_wp2
    go_ret
    exact ⟨rfl, rfl⟩

set_option maxHeartbeats 400000 in
theorem len_cell (b : Nat) (n : Int) (w : World) (h : w.cell? ⟨b, 3, none⟩ = some (.int .i64 n)) :
    Calls Try.prog 13 #[.pointer (some ⟨b, 0, none⟩)] w fun e w' => e = .returned (.int .i64 n) ∧ w = w' := by
  go_enter Try.func13, Try.ntmps13
  go_wp2
  go_ret
  exact ⟨rfl, rfl⟩

set_option maxHeartbeats 400000 in
theorem free_cell (b : Nat) (size n : Int) (w : World) (h1 : w.cell? ⟨b, 1, none⟩ = some (.int .i64 size)) (h3 : w.cell? ⟨b, 3, none⟩ = some (.int .i64 n)) (hn : 0 ≤ n) (hle : n ≤ size) (hs : size ≤ 1048576) :
    Calls Try.prog 22 #[.pointer (some ⟨b, 0, none⟩)] w fun e w' => e = .returned (.int .i64 (size - n)) ∧ ∃ m, w' = w.drewN m := by
  have ew : IntKind.i64.wrap (size - n) = size - n := IntWalk.i64_in _ (by omega)
  go_enter Try.func22, Try.ntmps22
  go_wp2
  go_quiet (fail)
  go_wp2
  go_ret
  exact ⟨rfl, _, rfl⟩

theorem RingI.c3 {w : World} {b size : Nat} {og : Option Nat} {L : List Int} (h : RingI w b og size L) : w.cell? ⟨b, 3, none⟩ = some (.int .i64 L.length) := by
  rcases h.2 with ⟨_, h2, h⟩ | ⟨g, c, f, arr, _, h⟩
  · rw [blk_cell h.str]; subst h2; rfl
  · rw [blk_cell h.str]; rfl
theorem RingI.c1 {w : World} {b size : Nat} {og : Option Nat} {L : List Int} (h : RingI w b og size L) : w.cell? ⟨b, 1, none⟩ = some (.int .i64 size) := by
  rcases h.2 with ⟨_, h2, h⟩ | ⟨g, c, f, arr, _, h⟩
  · rw [blk_cell h.str]; rfl
  · rw [blk_cell h.str]; rfl

theorem len_any {w : World} {b size : Nat} {og : Option Nat} {L : List Int} (h : RingI w b og size L) :
    Calls Try.prog 13 #[.pointer (some ⟨b, 0, none⟩)] w fun e w' => e = .returned (.int .i64 L.length) ∧ w = w' := len_cell b _ w h.c3

theorem free_any {w : World} {b size : Nat} {og : Option Nat} {L : List Int} (h : RingI w b og size L) :
    Calls Try.prog 22 #[.pointer (some ⟨b, 0, none⟩)] w fun e w' => e = .returned (.int .i64 (size - L.length)) ∧ ∃ m, w' = w.drewN m :=
  free_cell b size _ w h.c1 h.c3 (by omega) (by have := h.le; omega) (by have := h.1; omega)

set_option maxHeartbeats 400000 in
theorem peek_out {w : World} {b size : Nat} {og : Option Nat} {L : List Int} (h : RingI w b og size L) (i : Int) (hi : i < 0 ∨ L.length ≤ i) :
    Calls Try.prog 21 #[.pointer (some ⟨b, 0, none⟩), .int .i64 i] w fun e w' => e = .returned (.tuple #[.int .i64 0, .bool false]) ∧ w = w' := by
  have H := Lib.hid (len_any h)
  have hn := h.le
  have hs := h.1
  clear h
  rcases hi with hi | hi
  · go_enter Try.func21, Try.ntmps21
    go_wp2_with fail
    go_ret2
    exact ⟨rfl, rfl⟩
  · have hi' : ¬ i < 0 := by omega
    go_enter Try.func21, Try.ntmps21
    go_wp2_with fail
    refine H.out.mono ?_
    rintro e w' ⟨rfl, rfl⟩
    go_wp2
    go_ret2
    exact ⟨rfl, rfl⟩

set_option maxHeartbeats 400000 in
theorem peek_in {w : World} {b size : Nat} {og : Option Nat} {L : List Int} (h : RingI w b og size L) (i : Nat) (hi : i < L.length) :
    Calls Try.prog 21 #[.pointer (some ⟨b, 0, none⟩), .int .i64 i] w fun e w' => e = .returned (.tuple #[.int .i64 L[i], .bool true]) ∧ ∃ m, w' = w.drewN m := by
  have H := Lib.hid (len_any h)
  have hs := h.1
  rcases h.2 with ⟨_, h2, _⟩ | ⟨g, c, f, arr, _, hg⟩
  · subst h2; simp at hi
  · have hn := hg.nle
    have hc := hg.cle
    have hf := hg.flt
    have e0 : w.cell? ⟨b, 0, none⟩ = some (.slice (some ⟨g, 0, none⟩) c c) := by rw [blk_cell hg.str]; rfl
    have e2 : w.cell? ⟨b, 2, none⟩ = some (.int .i64 f) := by rw [blk_cell hg.str]; rfl
    have hmod : (f + i) % c < c := Nat.mod_lt _ (by omega)
    have ea : w.cell? ⟨g, (f + i) % c, none⟩ = some (.int .i64 L[i]) := by rw [blk_cell hg.row]; exact hg.at_ i hi
    have hiL : (i : Int) < (L.length : Int) := by omega
    clear h hg
    generalize L[i] = x at ea ⊢
    have w1 : IntKind.i64.wrap ((f : Int) + (i : Int)) = ((f + i : Nat) : Int) := by rw [IntWalk.i64_in _ (by omega)]; omega
    have t1 : Int.tmod ((f + i : Nat) : Int) (c : Int) = (((f + i) % c : Nat) : Int) := by rw [Int.tmod_eq_emod_of_nonneg (by omega)]; rfl
    have hc0 : ((c : Int) == 0) = false := by rw [beq_eq_false_iff_ne]; omega
    have w2 : IntKind.i64.wrap (((f + i) % c : Nat) : Int) = (((f + i) % c : Nat) : Int) := IntWalk.i64_in _ (by omega)
    have i1 : (0 : Int) ≤ (((f + i) % c : Nat) : Int) := by omega
    have i2 : (((f + i) % c : Nat) : Int) < (c : Int) := by omega
    have i3 : ((((f + i) % c : Nat) : Int)).toNat = (f + i) % c := by omega
    generalize (f + i) % c = y at *
    generalize f + i = z at *
    go_enter Try.func21, Try.ntmps21
    go_wp2_with fail
    refine H.out.mono ?_
    rintro e w' ⟨rfl, rfl⟩
    go_wp2
    go_quiet (fail)
    clear w1 t1 w2 i3 hc0
    go_wp2
    go_ret2
    exact ⟨rfl, _, rfl⟩

end Go.Proofs.Ytlfciaiaamcopaa
