/- Chapter 18: the walks of the laws on an exit and a configuration, whole. -/
import Derived.Test.YtmihnoiofbfbhaaDlK
import Derived.OpenShut
namespace Go.Proofs.Ytmihnoiofbfbhaa
open Go.RowKit

/-- The numbers of an exit and a configuration that came in. -/
theorem good_of {a wt : Int} {c : Cfg} (wa : (Lit.int .u64 a).wf = true) (ww : (Lit.int .u64 wt).wf = true) (wf : (Lit.int .u64 c.forced).wf = true) (ok : c.Ok) : Good a wt c :=
  ⟨(bounds_u64 wa).1, (bounds_u64 wa).2, (bounds_u64 ww).1, (bounds_u64 ww).2, (bounds_u64 wf).1, ok⟩

theorem deadlineMatches_walk (e a wt : Int) (c : Cfg) (w : World) (wa : (Lit.int .u64 a).wf = true) (ww : (Lit.int .u64 wt).wf = true) (wf : (Lit.int .u64 c.forced).wf = true) :
    Calls Try.prog 3 #[.agg #[.int .i64 e, .int .u64 a, .int .u64 wt], .agg c.list.toArray] w fun en w' => en = .returned (.bool true) ∧ Below w.heap.size w w' := by
  by_cases ok : c.Ok
  · exact deadlineMatches_good w (good_of wa ww wf ok)
  · exact deadlineMatches_bad e a wt c w ok

end Go.Proofs.Ytmihnoiofbfbhaa
