/- Chapter 18: four numbers by value, opened; the walk of DeadlineRises, whole. -/
import Derived.Test.YtmihnoiofbfbhaaDlT
import Derived.Laws.IdiomArrays
import Derived.OpenShut
namespace Go.Proofs.Ytmihnoiofbfbhaa
open Go.ChangeShapes Go.WideShapes Go.RowKit

theorem open_four {H : Type} {enc : TypeId × Value → H} {w : World} {base : Nat} {spare : Nat → Bool} {held : Bool} {r : Reach} {b0 : Nat} {v : Value} {d : DataW H} {p : List MemPlace}
    (hv : Value.okWide Try.prog w r b0 35 v) (h : DataW.Trod enc Try.prog w base spare held 35 v d p) :
    ∃ m0 m1 m2 m3 : Int, v = .agg #[.int .u32 m0, .int .u32 m1, .int .u32 m2, .int .u32 m3] ∧ (Lit.int .u32 m0).wf = true ∧ (Lit.int .u32 m1).wf = true ∧ (Lit.int .u32 m2).wf = true ∧ (Lit.int .u32 m3).wf = true := by
  simp only [Value.okWide, Try.underlying35] at hv
  obtain ⟨cs, rfl, hsz, -⟩ := hv
  have hC : Try.prog.cellsOf 35 = 4 := by kernel_rfl
  obtain ⟨l⟩ := cs
  match l, hsz.trans hC with
  | [c0, c1, c2, c3], _ =>
    obtain ⟨fuel, hf⟩ := h
    obtain ⟨y0, y1, y2, y3, n, _, h0, h1, h2, h3⟩ := trod_array4 Try.underlying35 (by kernel_rfl) hf
    obtain ⟨m0, e0, _, k0⟩ := DataW.trod_int Try.underlying34 h0
    obtain ⟨m1, e1, _, k1⟩ := DataW.trod_int Try.underlying34 h1
    obtain ⟨m2, e2, _, k2⟩ := DataW.trod_int Try.underlying34 h2
    obtain ⟨m3, e3, _, k3⟩ := DataW.trod_int Try.underlying34 h3
    simp only [List.cons.injEq, and_true] at e0 e1 e2 e3
    subst e0 e1 e2 e3
    exact ⟨m0, m1, m2, m3, rfl, k0, k1, k2, k3⟩

theorem deadlineRises_walk (e a wt m0 m1 m2 m3 : Int) (c : Cfg) (w : World) (wa : (Lit.int .u64 a).wf = true) (ww : (Lit.int .u64 wt).wf = true) (wf : (Lit.int .u64 c.forced).wf = true)
    (k0 : (Lit.int .u32 m0).wf = true) (k1 : (Lit.int .u32 m1).wf = true) (k2 : (Lit.int .u32 m2).wf = true) (k3 : (Lit.int .u32 m3).wf = true) :
    Calls Try.prog 4 #[.agg #[.int .i64 e, .int .u64 a, .int .u64 wt], .agg #[.int .u32 m0, .int .u32 m1, .int .u32 m2, .int .u32 m3], .agg c.list.toArray] w fun en w' => en = .returned (.bool true) ∧ Below w.heap.size w w' := by
  obtain ⟨a0, a1⟩ := bounds_u64 wa
  obtain ⟨w0, w1⟩ := bounds_u64 ww
  obtain ⟨f0, f1⟩ := bounds_u64 wf
  have b0 := bounds_u32 k0
  have b1 := bounds_u32 k1
  have b2 := bounds_u32 k2
  have b3 := bounds_u32 k3
  by_cases ok : c.Ok
  · by_cases h1 : 2305843009213693952 < a
    · exact rises_bad2 e a wt m0 m1 m2 m3 c w ok h1
    by_cases h2 : 2305843009213693952 < wt
    · exact rises_bad3 e a wt m0 m1 m2 m3 c w ok h1 h2
    have h8 := ok.h8
    have h10 := ok.h10
    have h11 := ok.h11
    have h12 := ok.h12
    have hs := swp_good ok
    have okd : (c.rise m2 m3).Ok := Cfg.rise_ok ok b2.1 b3.1
    have gd : Good (a + m0) (wt + m1) (c.rise m2 m3) := ⟨by omega, by omega, by omega, by omega, by simp only [Cfg.rise]; omega, okd⟩
    have gc : Good a wt c := good_of wa ww wf ok
    have ht : Int.tmod m3 1000 = m3 % 1000 := Int.tmod_eq_emod_of_nonneg b3.1
    refine rises_good e a wt m0 m1 m2 m3 c w ok h1 h2 (min (c.forced + m2) 1152921504606846976) (min (c.unb + m3 % 1000) (c.slash - 1)) ((c.minChurn + 1) / 2) (m3 % 1000) b0 b1 b2 b3 (IntWalk.u64_in _ (by omega)) (IntWalk.u64_in _ (by omega)) (IntWalk.u64_in _ (by omega)) (IntWalk.i64_in _ (by omega)) (IntWalk.u64_in _ (by omega)) (IntWalk.u64_in _ (by omega)) (IntWalk.u64_in _ (by omega)) (by split <;> omega)
      (IntWalk.i64_in _ (by omega)) (IntWalk.i64_in _ (by omega)) (by split <;> omega) (IntWalk.u64_in _ (by omega)) (Int.tdiv_eq_ediv_of_nonneg (by omega)) (IntWalk.u64_in _ (by omega)) ht (IntWalk.u32_in _ (by omega)) (c.rise m2 m3) rfl okd _ _ (fun w => pay_any (e := e) gc w) (fun w => pay_any (e := e) gd w) ?_
    cases hso : Pl.bound e (Pl.bnd (a + m0) (wt + m1) (c.rise m2 m3).forced (c.rise m2 m3).minChurn) [(c.rise m2 m3).unb, Pl.swp (c.rise m2 m3).capacity (c.rise m2 m3).visits (c.rise m2 m3).pays (c.rise m2 m3).parts (c.rise m2 m3).epl] with
    | none => exact .inl rfl
    | some y =>
      obtain ⟨x, hx, hxy⟩ := Cfg.rise_bound ok f0 a0 w0 b0.1 b1.1 b2.1 b3.1 hs.1 hso
      exact .inr ⟨x, y, hx, rfl, hxy⟩
  · exact rises_bad1 e a wt m0 m1 m2 m3 c w ok

end Go.Proofs.Ytmihnoiofbfbhaa
