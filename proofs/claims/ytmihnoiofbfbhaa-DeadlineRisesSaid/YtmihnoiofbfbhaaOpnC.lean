/- Chapter 18: the laws' arguments opened. -/
import Derived.Test.YtmihnoiofbfbhaaOpn
import Derived.Test.YtmihnoiofbfbhaaCfgC
namespace Go.Proofs.Ytmihnoiofbfbhaa
open Go.ChangeShapes Go.WideShapes Go.RowKit Go.Deep

theorem open_cfg {H : Type} {enc : TypeId × Value → H} {w : World} {base : Nat} {spare : Nat → Bool} {held : Bool} {r : Reach} {b0 : Nat} {v : Value} {d : DataW H} {p : List MemPlace}
    (hv : Value.okWide Try.prog w r b0 26 v) (h : DataW.Trod enc Try.prog w base spare held 26 v d p) : ∃ c : Cfg, v = .agg c.list.toArray ∧ (Lit.int .u64 c.forced).wf = true := by
  obtain ⟨zs, hl, rfl, hw⟩ := open_kinds [.i64, .i64, .u64, .u64, .u64, .u64, .u64, .u64, .u64, .u64, .i64, .i64, .i64, .i64, .i64, .i64, .i64, .i64, .u64, .u64] Try.underlying26 (by kernel_rfl) (by kernel_rfl) (by kernel_rfl) hv h
  match zs, hl with
  | [z0, z1, z2, z3, z4, z5, z6, z7, z8, z9, z10, z11, z12, z13, z14, z15, z16, z17, z18, z19], _ => exact ⟨⟨z0, z1, z2, z3, z4, z5, z6, z7, z8, z9, z10, z11, z12, z13, z14, z15, z16, z17, z18, z19⟩, rfl, hw 9 .u64 z9 rfl rfl⟩

theorem open_exit {H : Type} {enc : TypeId × Value → H} {w : World} {base : Nat} {spare : Nat → Bool} {held : Bool} {r : Reach} {b0 : Nat} {v : Value} {d : DataW H} {p : List MemPlace}
    (hv : Value.okWide Try.prog w r b0 24 v) (h : DataW.Trod enc Try.prog w base spare held 24 v d p) :
    ∃ e a wt : Int, v = .agg #[.int .i64 e, .int .u64 a, .int .u64 wt] ∧ (Lit.int .u64 a).wf = true ∧ (Lit.int .u64 wt).wf = true := by
  obtain ⟨zs, hl, rfl, hw⟩ := open_kinds [.i64, .u64, .u64] Try.underlying24 (by kernel_rfl) (by kernel_rfl) (by kernel_rfl) hv h
  match zs, hl with
  | [e, a, wt], _ => exact ⟨e, a, wt, rfl, hw 1 .u64 a rfl rfl, hw 2 .u64 wt rfl rfl⟩

theorem open_exit_e {H : Type} {enc : TypeId × Value → H} {w : World} {base : Nat} {spare : Nat → Bool} {held : Bool} {r : Reach} {b0 : Nat} {v : Value} {d : DataW H} {p : List MemPlace}
    (hv : Value.okWide Try.prog w r b0 24 v) (h : DataW.Trod enc Try.prog w base spare held 24 v d p) :
    ∃ e a wt : Int, v = .agg #[.int .i64 e, .int .u64 a, .int .u64 wt] ∧ (Lit.int .i64 e).wf = true ∧ (Lit.int .u64 a).wf = true ∧ (Lit.int .u64 wt).wf = true := by
  obtain ⟨zs, hl, rfl, hw⟩ := open_kinds [.i64, .u64, .u64] Try.underlying24 (by kernel_rfl) (by kernel_rfl) (by kernel_rfl) hv h
  match zs, hl with
  | [e, a, wt], _ => exact ⟨e, a, wt, rfl, hw 0 .i64 e rfl rfl, hw 1 .u64 a rfl rfl, hw 2 .u64 wt rfl rfl⟩

end Go.Proofs.Ytmihnoiofbfbhaa
