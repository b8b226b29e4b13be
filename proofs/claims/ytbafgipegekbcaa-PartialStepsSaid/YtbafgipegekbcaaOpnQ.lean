/- An argument that is a slice of requests, opened. -/
import Derived.Test.YtbafgipegekbcaaOpnT
import Derived.Test.YtbafgipegekbcaaPtI
namespace Go.Proofs.Ytbafgipegekbcaa
open Go.ChangeShapes Go.WideShapes Go.RowKit Go.Deep
set_option linter.unusedVariables false

theorem req_of_cells {cs : List Value} (hl : cs.length = 2) (hw : ∀ (i : Nat) (k : Option IntKind) (c : Value), ([some .i64, some .u64] : List (Option IntKind))[i]? = some k → cs[i]? = some c → isKind k c) :
    ∃ r : Req, cs = r.list ∧ r.Ok := by
  match cs, hl with
  | [c0, c1], _ =>
    obtain ⟨z0, rfl, _⟩ := hw 0 _ c0 rfl rfl
    obtain ⟨z1, rfl, w1⟩ := hw 1 _ c1 rfl rfl
    exact ⟨⟨z0, z1⟩, rfl, bounds_u64 w1⟩

theorem open_reqs {H : Type} {enc : TypeId × Value → H} {w : World} {base : Nat} {spare : Nat → Bool} {held : Bool} {v : Value} {d : DataW H} {p : List MemPlace} (hcl : v.cells.toList = [v]) (h : DataW.Trod enc Try.prog w base spare held 23 v d p) :
    ∃ (rs : List Req) (A : Option Addr) (n cap : Nat), v = .slice A n cap ∧ Row Req.list w A n rs ∧ n ≤ 9223372036854775807 ∧ ∀ r ∈ rs, r.Ok :=
  open_row [some .i64, some .u64] (by decide) Req.len (fun cs hl hw => req_of_cells hl hw) Try.underlying23 Try.underlying52 (by kernel_rfl) (by kernel_rfl) (by kernel_rfl) rfl hcl h

end Go.Proofs.Ytbafgipegekbcaa
