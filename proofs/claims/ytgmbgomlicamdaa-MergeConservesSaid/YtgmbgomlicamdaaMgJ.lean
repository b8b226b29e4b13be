/- Chapter 16: what Step does to the list; sums. Plain. -/
import Derived.Test.YtgmbgomlicamdaaMgI
namespace Go.Proofs.Ytgmbgomlicamdaa
open Go.RowKit
set_option linter.unusedSimpArgs false
set_option linter.unusedVariables false

theorem sum_set {α : Type} (f : α → Int) : ∀ (l : List α) (i : Nat) (v : α) (h : i < l.length), ((l.set i v).map f).sum = (l.map f).sum - f l[i] + f v
  | [], i, v, h => by simp at h
  | x :: t, 0, v, h => by simp; omega
  | x :: t, i + 1, v, h => by
    have := sum_set f t i v (by simpa using h)
    simp only [List.set_cons_succ, List.map_cons, List.sum_cons, List.getElem_cons_succ] at this ⊢
    omega

def mstep (c : Cfg) (vs : List Val) (p : Int × Int) : List Val :=
  if reqCode vs p.1 p.2 c = 0 then match vs[p.1.toNat]?, vs[p.2.toNat]? with
    | some x, some y => (vs.set p.1.toNat x.mv1).set p.2.toNat (x.mv2 y)
    | _, _ => vs
  else vs
def mfold (c : Cfg) (vs : List Val) (ps : List (Int × Int)) : List Val := ps.foldl (mstep c) vs
theorem mfold_succ (c : Cfg) (vs : List Val) (ps : List (Int × Int)) (j : Nat) (h : j < ps.length) : mfold c vs (ps.take (j + 1)) = mstep c (mfold c vs (ps.take j)) ps[j] := by
  unfold mfold
  rw [List.take_succ_eq_append_getElem h, List.foldl_append]
  rfl

/-- A permitted request, opened. -/
theorem req_zero {vs : List Val} {x y : Int} {c : Cfg} (hk : reqCode vs x y c = 0) : ∃ (s d : Nat) (hs : s < vs.length) (hd : d < vs.length), x = s ∧ y = d ∧ s ≠ d ∧ Val.chk vs[s] vs[d] c = 0 := by
  have h1 := hk
  unfold reqCode at h1
  by_cases hbad : x < 0 ∨ y < 0 ∨ (vs.length : Int) ≤ x ∨ (vs.length : Int) ≤ y
  · rw [if_pos hbad] at h1; omega
  rw [if_neg hbad] at h1
  by_cases heq : x = y
  · rw [if_pos heq] at h1; omega
  obtain ⟨s, rfl⟩ := Int.eq_ofNat_of_zero_le (show 0 ≤ x by omega)
  obtain ⟨d, rfl⟩ := Int.eq_ofNat_of_zero_le (show 0 ≤ y by omega)
  have e := reqCode_in (vs := vs) (s := s) (d := d) c (by omega) (by omega) (by omega)
  rw [hk] at e
  exact ⟨s, d, by omega, by omega, rfl, rfl, by omega, e.symm⟩

theorem mstep_yes {vs : List Val} {s d : Nat} {c : Cfg} (hs : s < vs.length) (hd : d < vs.length) (hk : reqCode vs s d c = 0) : mstep c vs ((s : Int), (d : Int)) = (vs.set s vs[s].mv1).set d (vs[s].mv2 vs[d]) := by
  unfold mstep
  rw [if_pos hk]
  simp [hs, hd]
theorem mstep_no {vs : List Val} {p : Int × Int} {c : Cfg} (hk : reqCode vs p.1 p.2 c ≠ 0) : mstep c vs p = vs := by
  unfold mstep; rw [if_neg hk]

def balOf (v : Val) : Int := v.bal
def actOf (v : Val) : Int := if v.st = 2 ∨ v.st = 3 then v.bal else 0
def AllOk (vs : List Val) : Prop := ∀ v ∈ vs, v.Ok

theorem chk_zero2 {a b : Val} {c : Cfg} (hr : Val.chk a b c = 0) : a.st = 2 ∧ b.st = 2 := by
  have h1 := hr
  unfold Val.chk at h1
  by_cases h2 : (a.st == 2 && b.st == 2) = false
  · rw [if_pos h2] at h1; omega
  simpa using h2

theorem mstep_spec {vs : List Val} {p : Int × Int} {c : Cfg} (hok : AllOk vs) (hm : c.maxBal ≤ 1152921504606846976) :
    (mstep c vs p).length = vs.length ∧ AllOk (mstep c vs p) ∧ ((mstep c vs p).map balOf).sum = (vs.map balOf).sum ∧ ((mstep c vs p).map actOf).sum = (vs.map actOf).sum := by
  by_cases hk : reqCode vs p.1 p.2 c = 0
  · obtain ⟨s, d, hs, hd, e1, e2, hne, hc⟩ := req_zero hk
    obtain ⟨p1, p2⟩ := p
    simp only at e1 e2 hk
    subst e1; subst e2
    rw [mstep_yes hs hd hk]
    have hx := hok _ (List.getElem_mem hs)
    have hy := hok _ (List.getElem_mem hd)
    obtain ⟨h2, h3⟩ := chk_zero2 hc
    have hd' : d < (vs.set s vs[s].mv1).length := by simpa using hd
    have e : (vs.set s vs[s].mv1)[d]'hd' = vs[d] := List.getElem_set_ne hne _
    refine ⟨by simp, chains_ok hok hx hy hc hm, ?_, ?_⟩
    · rw [sum_set balOf _ d _ hd', sum_set balOf _ s _ hs, e]
      simp only [balOf, Val.mv1, Val.mv2]
      omega
    · rw [sum_set actOf _ d _ hd', sum_set actOf _ s _ hs, e]
      simp only [actOf, Val.mv1, Val.mv2, h2, h3]
      simp
      omega
  · rw [mstep_no hk]
    exact ⟨rfl, hok, rfl, rfl⟩

theorem mfold_spec {c : Cfg} (hm : c.maxBal ≤ 1152921504606846976) : ∀ (ps : List (Int × Int)) {vs : List Val}, AllOk vs →
    (mfold c vs ps).length = vs.length ∧ AllOk (mfold c vs ps) ∧ ((mfold c vs ps).map balOf).sum = (vs.map balOf).sum ∧ ((mfold c vs ps).map actOf).sum = (vs.map actOf).sum
  | [], vs, h => ⟨rfl, h, rfl, rfl⟩
  | p :: t, vs, h => by
    obtain ⟨h1, h2, h3, h4⟩ := mstep_spec (p := p) h hm
    obtain ⟨g1, g2, g3, g4⟩ := mfold_spec hm t h2
    exact ⟨g1.trans h1, g2, g3.trans h3, g4.trans h4⟩

end Go.Proofs.Ytgmbgomlicamdaa
