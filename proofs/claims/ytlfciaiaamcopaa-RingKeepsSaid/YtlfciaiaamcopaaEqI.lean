/- slices.Equal at []int: true on slices that read alike. -/
import Derived.Test.YtlfciaiaamcopaaRows
import Derived.Test.YtlfciaiaamcopaaBase
namespace Go.Proofs.Ytlfciaiaamcopaa
open Go.RowKit

set_option maxHeartbeats 400000 in
theorem eqi_some (b1 o1 b2 o2 n c1 c2 : Nat) (xs : List Int) (w : World) (hn : n = xs.length) (hl : n ≤ 1048576)
    (h1 : ∀ j (h : j < xs.length), w.cell? ⟨b1, o1 + j, none⟩ = some (.int .i64 xs[j]))
    (h2 : ∀ j (h : j < xs.length), w.cell? ⟨b2, o2 + j, none⟩ = some (.int .i64 xs[j])) :
    Calls Try.prog 12 #[.slice (some ⟨b1, o1, none⟩) n c1, .slice (some ⟨b2, o2, none⟩) n c2] w fun e w' =>
      e = .returned (.bool true) ∧ ∃ m, w' = w.drewN m := by
  subst hn
  go_enter Try.func12, Try.ntmps12
  go_wp2_with fail
  go_loopw [13] (fun i wr => ∃ k : Nat, k ≤ xs.length ∧ i = .int .i64 k ∧ ∃ m, wr = w.drewN m) (fun i _ => xs.length - (intOf i).toNat)
  case atStart => exact ⟨0, Nat.zero_le _, rfl, 0, rfl⟩
  case round =>
    obtain ⟨k, hk, rfl, m, rfl⟩ := hrel
    by_cases hlt : k < xs.length
    · have hc1 := h1 k hlt
      have hc2 := h2 k hlt
      have hi : (k : Int) < (xs.length : Int) := by omega
      clear h1 h2
      go_wp2
      go_quiet (fail)
      go_wp2
      go_roundw
      case rel => exact ⟨k + 1, by omega, by go_num, _, rfl⟩
      case measure => simp [intOf]; omega
    · clear h1 h2
      go_wp2
      go_ret
      exact ⟨rfl, m, rfl⟩

set_option maxHeartbeats 400000 in
theorem eqi_none (a1 a2 : Option Addr) (c1 c2 : Nat) (w : World) :
    Calls Try.prog 12 #[.slice a1 0 c1, .slice a2 0 c2] w fun e w' => e = .returned (.bool true) ∧ ∃ m, w' = w.drewN m := by
  go_enter Try.func12, Try.ntmps12
  go_wp2_with fail
  refine wp_loop_rounds 1 ?_
  rw [rounds_succ]
  go_wp2
  go_ret
  exact ⟨rfl, 0, rfl⟩

theorem eqi_any {w : World} {a1 a2 : Option Addr} {n1 n2 c1 c2 : Nat} {xs : List Int} (h1 : Ints w .i64 a1 n1 xs) (h2 : Ints w .i64 a2 n2 xs) (hl : xs.length ≤ 1048576) :
    Calls Try.prog 12 #[.slice a1 n1 c1, .slice a2 n2 c2] w fun e w' => e = .returned (.bool true) ∧ ∃ m, w' = w.drewN m := by
  obtain ⟨hn1, h1⟩ := h1
  obtain ⟨hn2, h2⟩ := h2
  subst hn1
  subst hn2
  rcases h1 with rfl | ⟨b1, o1, rfl, hc1⟩
  · exact eqi_none a1 a2 c1 c2 w
  · rcases h2 with rfl | ⟨b2, o2, rfl, hc2⟩
    · exact eqi_none _ a2 c1 c2 w
    · exact eqi_some b1 o1 b2 o2 _ c1 c2 xs w rfl hl hc1 hc2

end Go.Proofs.Ytlfciaiaamcopaa
