/- Chapter 18: a bound does not decrease: the plain law of DeadlineRises. -/
import Derived.Test.YtmihnoiofbfbhaaDlM
namespace Go.Proofs.Ytmihnoiofbfbhaa
open Go.RowKit
set_option linter.unusedVariables false

theorem Pl.cd_mono {s s' d d' : Int} (h0 : 0 ≤ s) (h : s ≤ s') (hd : 1 ≤ d') (hdd : d' ≤ d) : Pl.cd s d ≤ Pl.cd s' d' := by
  by_cases hs : s = 0
  · subst hs
    rw [Pl.cd_zero d (by omega)]
    exact Pl.cd_nonneg _ _ hd (by omega)
  · rw [← Pl.cd_succ s d (by omega), ← Pl.cd_succ s' d' hd]
    have q0 : 0 ≤ (s - 1) / d := Int.ediv_nonneg (by omega) (by omega)
    have q1 : (s - 1) / d * d ≤ s - 1 := Int.ediv_mul_le _ (by omega)
    have q2 : (s - 1) / d * d' ≤ (s - 1) / d * d := Int.mul_le_mul_of_nonneg_left hdd q0
    have q3 : (s - 1) / d ≤ (s' - 1) / d' := Int.le_ediv_of_mul_le (by omega) (by omega)
    omega

theorem Pl.bnd_mono {a w fc mc a' w' fc' mc' k : Int} (h0 : 0 ≤ a + w + fc) (h : a + w + fc ≤ a' + w' + fc') (hd : 1 ≤ mc') (hdd : mc' ≤ mc) (hk : Pl.bnd a' w' fc' mc' = some k) : ∃ j, Pl.bnd a w fc mc = some j ∧ j ≤ k := by
  unfold Pl.bnd Pl.epo at *
  by_cases h1 : 18446744073709551615 < a' + w' + fc'
  · rw [if_pos h1] at hk; cases hk
  rw [if_neg h1] at hk
  rw [if_neg (by omega)]
  have hm := Pl.cd_mono h0 h hd hdd
  by_cases h2 : Pl.cd (a' + w' + fc') mc' ≤ 1099511627776
  · rw [if_pos h2] at hk
    rw [if_pos (by omega)]
    simp only [Option.map_some, Option.some.injEq] at hk
    exact ⟨max (Pl.cd (a + w + fc) mc) 1, rfl, by omega⟩
  · rw [if_neg h2] at hk; cases hk

/-- Two rows of sums, the one at most the other, element by element. -/
inductive LeL : List Int → List Int → Prop where
  | nil : LeL [] []
  | cons {x y : Int} {l l' : List Int} : 0 ≤ x ∧ x ≤ y → LeL l l' → LeL (x :: l) (y :: l')

theorem Pl.lat_mono (l l' : List Int) (h : LeL l l') : ∀ s s' r, s ≤ s' → Pl.lat l' s' = some r → ∃ q, Pl.lat l s = some q ∧ q ≤ r := by
  induction h with
  | nil =>
    intro s s' r hs hr
    simp only [Pl.lat, Option.some.injEq] at hr
    exact ⟨s, rfl, by omega⟩
  | cons hxy ht ih =>
    intro s s' r hs hr
    simp only [Pl.lat] at hr ⊢
    split at hr
    · cases hr
    · rw [if_neg (by omega)]
      exact ih _ _ _ (by omega) hr

/-- The configuration that DeadlineRises makes. -/
def Cfg.rise (c : Cfg) (m2 m3 : Int) : Cfg := { c with forced := min (c.forced + m2) 1152921504606846976, unb := min (c.unb + m3 % 1000) (c.slash - 1), minChurn := (c.minChurn + 1) / 2 }

theorem Cfg.rise_ok {c : Cfg} (ok : c.Ok) {m2 m3 : Int} (h2 : 0 ≤ m2) (h3 : 0 ≤ m3) : (c.rise m2 m3).Ok := by
  obtain ⟨a1, a2, a3, a4, a5, a6, a7, a8, a9, a10, a11, a12, a13, a14, a15, a16, a17, a18, a19, a20⟩ := ok
  exact ⟨a1, a2, a3, a4, a5, a6, a7, by simp only [Cfg.rise]; omega, a9, by simp only [Cfg.rise]; omega, by simp only [Cfg.rise]; omega, by simp only [Cfg.rise]; omega, a13, a14, a15, a16, a17, a18, a19, a20⟩

theorem Cfg.rise_bound {c : Cfg} (ok : c.Ok) (f0 : 0 ≤ c.forced) {e a wt m0 m1 m2 m3 b sw : Int} (ha : 0 ≤ a) (hw : 0 ≤ wt) (h0 : 0 ≤ m0) (h1 : 0 ≤ m1) (h2 : 0 ≤ m2) (h3 : 0 ≤ m3) (hs : 0 ≤ sw)
    (hb : Pl.bound e (Pl.bnd (a + m0) (wt + m1) (c.rise m2 m3).forced (c.rise m2 m3).minChurn) [(c.rise m2 m3).unb, sw] = some b) :
    ∃ x, Pl.bound e (Pl.bnd a wt c.forced c.minChurn) [c.unb, sw] = some x ∧ x ≤ b := by
  have a8 := ok.h8
  have a10 := ok.h10
  have a11 := ok.h11
  have a12 := ok.h12
  cases hk : Pl.bnd (a + m0) (wt + m1) (c.rise m2 m3).forced (c.rise m2 m3).minChurn with
  | none => rw [hk] at hb; cases hb
  | some k =>
    rw [hk] at hb
    obtain ⟨j, hj, hjk⟩ := Pl.bnd_mono (a := a) (w := wt) (fc := c.forced) (mc := c.minChurn) (by omega) (by simp only [Cfg.rise]; omega) (by simp only [Cfg.rise]; omega) (by simp only [Cfg.rise]; omega) hk
    rw [hj]
    have hj0 : 0 ≤ j := by
      unfold Pl.bnd Pl.epo at hj
      split at hj
      · cases hj
      · split at hj
        · simp only [Option.map_some, Option.some.injEq] at hj; omega
        · cases hj
    have he : 0 ≤ e := by
      simp only [Pl.bound, Option.bind_some, List.cons_append, Pl.lat] at hb
      split at hb
      · cases hb
      · omega
    simp only [Pl.bound, Option.bind_some] at hb ⊢
    refine Pl.lat_mono _ _ ?_ 0 0 b (by omega) hb
    simp only [List.cons_append, List.nil_append]
    refine .cons ⟨he, by omega⟩ (.cons ⟨hj0, hjk⟩ (.cons ⟨by omega, by omega⟩ (.cons ⟨by omega, ?_⟩ (.cons ⟨hs, by omega⟩ .nil))))
    simp only [Cfg.rise]; omega

end Go.Proofs.Ytmihnoiofbfbhaa
