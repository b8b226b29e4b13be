/- slices.Equal at []uint64: true on slices that read alike. -/
import Derived.Test.YtddplidjmaflkaaRows
import Derived.Test.YtddplidjmaflkaaBase
namespace Go.Proofs.Ytddplidjmaflkaa
open Go.RowKit

set_option maxHeartbeats 400000 in
theorem equ_some (b1 o1 b2 o2 n c1 c2 : Nat) (xs : List Int) (w : World) (hn : n = xs.length) (hl : n ≤ 1048576)
    (h1 : ∀ j (h : j < xs.length), w.cell? ⟨b1, o1 + j, none⟩ = some (.int .u64 xs[j]))
    (h2 : ∀ j (h : j < xs.length), w.cell? ⟨b2, o2 + j, none⟩ = some (.int .u64 xs[j])) :
    Calls Try.prog 11 #[.slice (some ⟨b1, o1, none⟩) n c1, .slice (some ⟨b2, o2, none⟩) n c2] w fun e w' =>
      e = .returned (.bool true) ∧ ∃ m, w' = w.drewN m := by
  subst hn
  go_enter Try.func11, Try.ntmps11
  go_wp2_with fail
  go_loopw [13] (fun i wr => ∃ k : Nat, k ≤ xs.length ∧ i = .int .i64 k ∧ ∃ m, wr = w.drewN m) (fun i _ => xs.length - (intOf i).toNat)
  case atStart => exact ⟨0, Nat.zero_le _, rfl, 0, rfl⟩
  case round =>
    obtain ⟨k, hk, rfl, m, rfl⟩ := hrel
    by_cases hlt : k < xs.length
    · have hc1 := h1 k hlt
      have hc2 := h2 k hlt
      have hi : (k : Int) < (xs.length : Int) := by omega
      clear h1 h2
      go_wp2
      go_quiet (fail)
      go_wp2
      go_roundw
      case rel => exact ⟨k + 1, by omega, by go_num, _, rfl⟩
      case measure => simp [intOf]; omega
    · clear h1 h2
      go_wp2
      go_ret
      exact ⟨rfl, m, rfl⟩

end Go.Proofs.Ytddplidjmaflkaa
