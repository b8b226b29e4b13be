/- Chapter 10: the walk of LimitSplits itself: true, and nothing that was there is written. -/
import Derived.Test.YtddplidjmaflkaaLimB
import Derived.Test.YtddplidjmaflkaaLimW
import Derived.Test.YtddplidjmaflkaaRowi
namespace Go.Proofs.Ytddplidjmaflkaa
open Go.RowKit

set_option maxHeartbeats 400000 in
theorem limitSplits_big (s : Int) (a : Option Addr) (n cap : Nat) (w : World) (hl : 1000 < n) (hm : n ≤ 9223372036854775807) :
    Calls Try.prog 3 #[.int .u64 s, .slice a n cap] w fun e w' => e = .returned (.bool true) ∧ Below w.heap.size w w' := by
  go_enter Try.func3, Try.ntmps3
  go_wp2_with fail
  refine (alive_any _).mono ?_
  rintro e w' ⟨rfl, hb⟩
  go_wp2
  go_ret
  exact ⟨rfl, hb⟩

set_option maxHeartbeats 400000 in
theorem limitSplits_small (s : Int) (a : Option Addr) (n cap : Nat) (zs : List Int) (w : World) (hl : n ≤ 1000) (hc : Ints w .u64 a n zs)
    (hz : ∀ x ∈ zs, 0 ≤ x ∧ x ≤ 18446744073709551615) (h0 : 0 ≤ s) (h1 : s ≤ 18446744073709551615) :
    Calls Try.prog 3 #[.int .u64 s, .slice a n cap] w fun e w' => e = .returned (.bool true) ∧ Below w.heap.size w w' := by
  have H1 := split_any a n cap zs s w hl hc hz h0 h1
  have H2 := refsplit_any a n cap zs s w hl hc hz h0 h1
  generalize Pl.fold zs s = p at H1 H2
  obtain ⟨p1, p2⟩ := p
  have H1' := Lib.hid H1
  have H2' := Lib.hid H2
  clear H1 H2 hc hz
  go_enter Try.func3, Try.ntmps3
  go_wp2_with fail
  refine H1'.out.mono ?_
  rintro e w' ⟨rfl, rfl⟩
  go_wp2_with fail
  refine H2'.out.mono ?_
  rintro e w' ⟨rfl, rfl⟩
  go_wp2_with fail
  refine (alive_any _).mono ?_
  rintro e w' ⟨rfl, hb⟩
  go_wp2
  go_ret
  exact ⟨rfl, hb⟩

theorem limitSplits_walk (a0 : Int) (a1 : Option Addr) (len1 cap1 : Nat) (z1 : List Int) (w : World) (w0 : (Lit.int .u64 a0).wf = true) (w1 : IsRow .u64 w a1 len1 cap1 z1) :
    Calls Try.prog 3 #[.int .u64 a0, .slice a1 len1 cap1] w fun e w' => e = .returned (.bool true) ∧ Below w.heap.size w w' := by
  obtain ⟨h0, h1⟩ := bounds_u64 w0
  obtain ⟨hi, hz⟩ := w1.ints
  by_cases hl : len1 ≤ 1000
  · exact limitSplits_small a0 a1 len1 cap1 _ w hl hi (fun x hx => bounds_u64 (hz x hx)) h0 h1
  · refine limitSplits_big a0 a1 len1 cap1 w (by omega) ?_
    rcases w1 with ⟨_, h, _⟩ | ⟨x, _, h2, h3, _⟩
    · omega
    · unfold maxLen at h3; omega

end Go.Proofs.Ytddplidjmaflkaa
