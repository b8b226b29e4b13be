/- A validator, a configuration as arguments, opened. -/
import Derived.Test.YtbafgipegekbcaaOpnB
import Derived.Test.YtbafgipegekbcaaOpn
import Derived.Test.YtbafgipegekbcaaVal
namespace Go.Proofs.Ytbafgipegekbcaa
open Go.ChangeShapes Go.WideShapes Go.RowKit Go.Deep
set_option linter.unusedVariables false

theorem val_of_cells {cs : List Value} (hl : cs.length = 7) (hw : ∀ (i : Nat) (k : Option IntKind) (c : Value), ([some .u64, some .i64, none, some .i64, some .i64, some .i64, some .i64] : List (Option IntKind))[i]? = some k → cs[i]? = some c → isKind k c) :
    ∃ v : Val, cs = v.list ∧ v.Ok := by
  match cs, hl with
  | [c0, c1, c2, c3, c4, c5, c6], _ =>
    obtain ⟨z0, rfl, w0⟩ := hw 0 _ c0 rfl rfl
    obtain ⟨z1, rfl, _⟩ := hw 1 _ c1 rfl rfl
    obtain ⟨z2, rfl⟩ := hw 2 _ c2 rfl rfl
    obtain ⟨z3, rfl, _⟩ := hw 3 _ c3 rfl rfl
    obtain ⟨z4, rfl, _⟩ := hw 4 _ c4 rfl rfl
    obtain ⟨z5, rfl, _⟩ := hw 5 _ c5 rfl rfl
    obtain ⟨z6, rfl, _⟩ := hw 6 _ c6 rfl rfl
    exact ⟨⟨z0, z1, z2, z3, z4, z5, z6⟩, rfl, bounds_u64 w0⟩

theorem open_val {H : Type} {enc : TypeId × Value → H} {w : World} {base : Nat} {spare : Nat → Bool} {held : Bool} {r : Reach} {b0 : Nat} {v : Value} {d : DataW H} {p : List MemPlace}
    (hv : Value.okWide Try.prog w r b0 35 v) (h : DataW.Trod enc Try.prog w base spare held 35 v d p) : ∃ x : Val, v = .agg x.list.toArray ∧ x.Ok := by
  obtain ⟨cs, hl, rfl, hw⟩ := open_fields [some .u64, some .i64, none, some .i64, some .i64, some .i64, some .i64] Try.underlying35 (by kernel_rfl) (by kernel_rfl) (by kernel_rfl) hv h
  obtain ⟨x, rfl, hx⟩ := val_of_cells hl hw
  exact ⟨x, rfl, hx⟩

theorem open_cfgb {H : Type} {enc : TypeId × Value → H} {w : World} {base : Nat} {spare : Nat → Bool} {held : Bool} {r : Reach} {b0 : Nat} {v : Value} {d : DataW H} {p : List MemPlace}
    (hv : Value.okWide Try.prog w r b0 26 v) (h : DataW.Trod enc Try.prog w base spare held 26 v d p) : ∃ c : Cfg, v = .agg c.list.toArray ∧ (Lit.int .u64 c.forced).wf = true := by
  obtain ⟨zs, hl, rfl, hw⟩ := open_kinds [.i64, .i64, .u64, .u64, .u64, .u64, .u64, .u64, .u64, .u64, .i64, .i64, .i64, .i64, .i64, .i64, .i64, .i64, .u64, .u64] Try.underlying26 (by kernel_rfl) (by kernel_rfl) (by kernel_rfl) hv h
  match zs, hl with
  | [z0, z1, z2, z3, z4, z5, z6, z7, z8, z9, z10, z11, z12, z13, z14, z15, z16, z17, z18, z19], _ => exact ⟨⟨z0, z1, z2, z3, z4, z5, z6, z7, z8, z9, z10, z11, z12, z13, z14, z15, z16, z17, z18, z19⟩, rfl, hw 9 .u64 z9 rfl rfl⟩

end Go.Proofs.Ytbafgipegekbcaa
