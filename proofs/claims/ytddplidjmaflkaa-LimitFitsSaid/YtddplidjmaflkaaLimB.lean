/- Chapter 10: alive. -/
import Derived.Test.YtddplidjmaflkaaLimA
namespace Go.Proofs.Ytddplidjmaflkaa
open Go.RowKit

theorem cells3 {w : World} {g : Nat} {cap : Nat} (h : w.ownsRow 0 22 1 (.slice (some ⟨g, 0, none⟩) 3 cap) 3 [.int .u64 32, .int .u64 32, .int .u64 6]) :
    ∀ j (hj : j < [(32 : Int), 32, 6].length), w.cell? ⟨g, 0 + j, none⟩ = some (.int .u64 [(32 : Int), 32, 6][j]) := by
  intro j hj
  have hc := h.cells (g := g) rfl
  match j, hj with
  | 0, _ => simpa [Addr.add] using hc 0 _ rfl
  | 1, _ => simpa [Addr.add] using hc 1 _ rfl
  | 2, _ => simpa [Addr.add] using hc 2 _ rfl

theorem new3 (w : World) : ∀ j (hj : j < [(32 : Int), 32, 6].length),
    (w.alloc (.cells #[.int .u64 32, .int .u64 32, .int .u64 6] 22)).cell? ⟨w.heap.size, 0 + j, none⟩ = some (.int .u64 [(32 : Int), 32, 6][j]) := by
  intro j hj
  match j, hj with
  | 0, _ => simp [World.cell?_alloc_at]
  | 1, _ => simp [World.cell?_alloc_at]
  | 2, _ => simp [World.cell?_alloc_at]

set_option maxHeartbeats 400000 in
theorem alive_any (w : World) :
    Calls Try.prog 5 #[] w fun e w' => e = .returned (.bool true) ∧ Below w.heap.size w w' := by
  go_enter Try.func5, Try.ntmps5
  go_wp2_with fail
  refine (spread_ex _).mono ?_
  rintro e w1 ⟨v, rfl, hown, hb⟩
  obtain ⟨g, cap, rfl, hg, hlt, hcap⟩ := own_form hown (by omega)
  have hc := cells3 (ownsRow_base0 ((hown.alloc (.cells #[.int .u64 32, .int .u64 32, .int .u64 6] 22))))
  have hn := new3 w1
  have HC := Lib.hid hc
  have HN := Lib.hid hn
  clear hc hn hown
  go_wp2_with (first | (go_at_call 10; go_in) | fail)
  refine (equ_some g 0 w1.heap.size 0 3 cap 3 [32, 32, 6] _ rfl (by omega) HC.out HN.out).mono ?_
  rintro e w' ⟨rfl, m, rfl⟩
  go_wp2
  go_ret
  exact ⟨rfl, (hb.alloc hb.size _).trans ⟨rfl, rfl, rfl, Nat.le_refl _, fun _ _ => rfl⟩⟩

end Go.Proofs.Ytddplidjmaflkaa
