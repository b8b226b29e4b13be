/- Chapter 10: the walks of Spread, Churn at the example's numbers, and alive. -/
import Derived.Test.YtddplidjmaflkaaEqU
import Derived.Test.YtddplidjmaflkaaApp
namespace Go.Proofs.Ytddplidjmaflkaa
open Go.RowKit

theorem Try.infoU : (Try.prog.info? 22).map (fun i => (i.zero, i.size, i.bytes)) = some (some (.int .u64 0), 1, 8) := by kernel_rfl

/-- How far the example's loop has come. -/
inductive Sp : Int → List Int → Nat → Prop
  | a : Sp 70 [] 3
  | b : Sp 38 [32] 2
  | c : Sp 6 [32, 32] 1
  | d : Sp 0 [32, 32, 6] 0

set_option maxHeartbeats 400000 in
theorem spread_ex (w : World) :
    Calls Try.prog 9 #[.int .u64 70, .int .u64 32] w fun e w' =>
      ∃ v, e = .returned (.tuple #[v, .bool true]) ∧ w'.ownsRow w.heap.size 22 1 v 3 [.int .u64 32, .int .u64 32, .int .u64 6] ∧ Below w.heap.size w w' := by
  obtain ⟨i0, hi, hz0, hz1, hz2⟩ := info_parts Try.infoU
  go_enter Try.func9, Try.ntmps9
  go_wp2_with (first | go_in | fail)
  go_loopg [0, 8] 3 (fun k q v wr => ∃ (i : Int) (l : List Int), q = .int .u64 i ∧ Sp i l k ∧ wr.ownsRow w.heap.size 22 1 v l.length (l.map (Value.int .u64)) ∧ Below w.heap.size w wr)
  case atStart => exact ⟨_, _, rfl, .a, World.ownsRow_nil _ _ _ _, Below.refl _ _⟩
  case round =>
    obtain ⟨i, l, rfl, hs, hown, hb⟩ := hrel
    have hsz := hb.size
    have hlt := hown.lt
    cases hs
    case d =>
      go_wp2
      refine bodyPost_ret (results_tmp2 rfl _ _ _) rfl ?_
      exact ⟨_, rfl, hown, hb⟩
    all_goals
      have HL := Lib.hid hlt
      clear hlt
      go_wp2_with (at_builtin; go_must (refine wpList_append1 23 hown (.int .u64 0) Try.underlying23 Try.infoU rfl (by simp) (by simp) hsz rfl rfl rfl rfl rfl ?_))
      intro v' w' hown' hg
      have hb' := hb.grown hg hsz (fun k hk => (HL.out k hk).1)
      clear hg hown hb
      go_wp2
    · go_roundg 2
      case measure => omega
      case rel => exact ⟨_, _, rfl, .b, hown', hb'⟩
    · go_roundg 1
      case measure => omega
      case rel => exact ⟨_, _, rfl, .c, hown', hb'⟩
    · go_roundg 0
      case measure => omega
      case rel => exact ⟨_, _, rfl, .d, hown', hb'⟩

end Go.Proofs.Ytddplidjmaflkaa
