/- Chapter 17: what a step does to balances and which payments it makes. Nothing of the program's text. -/
import Derived.Test.YtbafgipegekbcaaPtG
namespace Go.Proofs.Ytbafgipegekbcaa
open Go.RowKit
set_option linter.unusedSimpArgs false
set_option linter.unusedVariables false

/-- What validator i is paid. -/
def sumTo (i : Nat) (qs : List Pay) : Int := (qs.map fun p => if p.idx = (i : Int) then p.amt else 0).sum
theorem sumTo_add (i : Nat) (qs : List Pay) (p : Pay) : sumTo i (qs ++ [p]) = sumTo i qs + if p.idx = (i : Int) then p.amt else 0 := by
  simp [sumTo]
theorem sumTo_keep (i : Nat) : ∀ qs : List Pay, sumTo i (qs.filter keepB) = sumTo i qs
  | [] => rfl
  | p :: qs => by
    have ih := sumTo_keep i qs
    unfold sumTo at ih ⊢
    by_cases h : keepB p = true
    · rw [List.filter_cons_of_pos h, List.map_cons, List.map_cons, List.sum_cons, List.sum_cons, ih]
    · rw [List.filter_cons_of_neg h, List.map_cons, List.sum_cons, ih]
      have h0 : p.amt = 0 := by simpa [keepB, delB] using h
      rw [h0]; simp
theorem sumTo_succ (i : Nat) (qs : List Pay) (j : Nat) (h : j < qs.length) : sumTo i (qs.take (j + 1)) = sumTo i (qs.take j) + if qs[j].idx = (i : Int) then qs[j].amt else 0 := by
  rw [List.take_succ_eq_append_getElem h, sumTo_add]
theorem sumTo_mono {i : Nat} {qs : List Pay} (h : ∀ p ∈ qs, 0 ≤ p.amt) (j : Nat) : 0 ≤ sumTo i (qs.take j) ∧ sumTo i (qs.take j) ≤ sumTo i qs := by
  have h0 : ∀ l : List Pay, (∀ p ∈ l, 0 ≤ p.amt) → 0 ≤ sumTo i l := by
    intro l
    induction l with
    | nil => intro _; simp [sumTo]
    | cons p l ih =>
      intro hl
      have h1 := ih fun q hq => hl q (List.mem_cons_of_mem _ hq)
      have h2 := hl p (List.mem_cons_self ..)
      unfold sumTo at h1 ⊢
      rw [List.map_cons, List.sum_cons]
      split <;> omega
  refine ⟨h0 _ fun p hp => h p (List.mem_of_mem_take hp), ?_⟩
  have h1 : sumTo i qs = sumTo i (qs.take j) + sumTo i (qs.drop j) := by
    conv => lhs; rw [← List.take_append_drop j qs]
    simp only [sumTo, List.map_append, List.sum_append]
  have h2 := h0 (qs.drop j) fun p hp => h p (List.mem_of_mem_drop hp)
  omega

/-- A validator before and after the payments. -/
def El (c : Cfg) (i : Nat) (x u : Val) (qs : List Pay) : Prop :=
  u = { x with bal := u.bal } ∧ (x.bal ≤ u.bal ∨ c.minBal ≤ u.bal) ∧ u.bal ≤ x.bal ∧ u.bal + sumTo i qs = x.bal
def PayOk (ls : List Val) (p : Pay) : Prop :=
  ∃ x, 0 ≤ p.idx ∧ ls[p.idx.toNat]? = some x ∧ p.full = false ∧ 0 ≤ p.amt ∧ (p.amt ≠ 0 → x.st = 2 ∧ x.sl = false)
structure Inv (c : Cfg) (ls : List Val) (st : List Val × List Pay) : Prop where
  len : st.1.length = ls.length
  el : ∀ i x u, ls[i]? = some x → st.1[i]? = some u → El c i x u st.2
  pay : ∀ p ∈ st.2, PayOk ls p

theorem Inv.new (c : Cfg) (ls : List Val) : Inv c ls (ls, []) := by
  refine ⟨rfl, fun i x u h1 h2 => ?_, by simp⟩
  obtain rfl : x = u := by rw [h1] at h2; exact Option.some.inj h2
  exact ⟨rfl, .inl (Int.le_refl _), Int.le_refl _, by simp [sumTo]⟩

theorem payN_floor {v : Val} {c : Cfg} {amt : Int} (hc : 0 ≤ c.minBal) (ha : 0 ≤ amt) : payN v amt c = 0 ∨ (v.st = 2 ∧ v.sl = false ∧ c.minBal ≤ v.bal - payN v amt c) := by
  have h0 : avail v c = 0 ∨ (v.st = 2 ∧ v.sl = false ∧ avail v c = v.bal - c.minBal ∧ c.minBal < v.bal) := by
    unfold avail
    by_cases h : v.st = 2 ∧ v.sl = false ∧ c.minBal < v.bal
    · rw [if_pos h]; exact .inr ⟨h.1, h.2.1, rfl, h.2.2⟩
    · rw [if_neg h]; exact .inl rfl
  unfold payN
  rcases h0 with h0 | ⟨h1, h2, h3, h4⟩
  · left; rw [h0]; split <;> omega
  · right; refine ⟨h1, h2, ?_⟩; rw [h3]; split <;> omega

theorem Inv.step {c : Cfg} {ls : List Val} {st : List Val × List Pay} {r : Req} (h : Inv c ls st) (hok : AllOk st.1) (hc : 0 ≤ c.minBal) (hr : r.Ok) : Inv c ls (pstep c st r) := by
  unfold pstep
  by_cases h0 : r.idx < 0 ∨ (st.1.length : Int) ≤ r.idx
  · rw [if_pos h0]; exact h
  rw [if_neg h0]
  have hs : r.idx.toNat < st.1.length := by omega
  have hsl : r.idx.toNat < ls.length := by rw [← h.len]; exact hs
  rw [List.getElem?_eq_getElem hs]
  have hxo := hok _ (List.getElem_mem hs)
  have hb := payN_bd (amt := r.amt) hxo hc hr.1
  have hf := payN_floor (v := st.1[r.idx.toNat]) (c := c) hc hr.1
  have he := h.el r.idx.toNat ls[r.idx.toNat] st.1[r.idx.toNat] (List.getElem?_eq_getElem hsl) (List.getElem?_eq_getElem hs)
  obtain ⟨e1, e2, e3, e4⟩ := he
  generalize hx : st.1[r.idx.toNat] = x at *
  show Inv c ls (st.1.set r.idx.toNat (x.less (payN x r.amt c)), st.2 ++ [⟨r.idx, payN x r.amt c, false⟩])
  generalize hk : payN x r.amt c = k at *
  refine ⟨by simpa using h.len, fun i y u h1 h2 => ?_, fun p hp => ?_⟩
  · show El c i y u (st.2 ++ [_])
    by_cases hi : i = r.idx.toNat
    · subst hi
      obtain rfl : ls[r.idx.toNat] = y := by rw [List.getElem?_eq_getElem hsl] at h1; exact Option.some.inj h1
      obtain rfl : x.less k = u := by
        have h2' : (st.1.set r.idx.toNat (x.less k))[r.idx.toNat]? = some u := h2
        rw [List.getElem?_set_self hs] at h2'; exact Option.some.inj h2'
      have hcast : r.idx = ((r.idx.toNat : Nat) : Int) := by omega
      unfold El
      rw [sumTo_add, if_pos hcast]
      have hbal : (x.less k).bal = x.bal - k := rfl
      rw [hbal]
      refine ⟨?_, ?_, by omega, by simp only; omega⟩
      · show ({ x with bal := x.bal - k } : Val) = _
        rw [e1]
      · rcases hf with hf | ⟨-, -, hf⟩
        · rcases e2 with e2 | e2
          · left; omega
          · right; omega
        · right; omega
    · have h2' : (st.1.set r.idx.toNat (x.less k))[i]? = some u := h2
      rw [List.getElem?_set_ne (fun e => hi e.symm)] at h2'
      obtain ⟨f1, f2, f3, f4⟩ := h.el i y u h1 h2'
      refine ⟨f1, f2, f3, ?_⟩
      rw [sumTo_add, if_neg (by simp only; omega)]
      omega
  · have hp' : p ∈ st.2 ++ [(⟨r.idx, k, false⟩ : Pay)] := hp
    rcases List.mem_append.1 hp' with hp' | hp'
    · exact h.pay p hp'
    · obtain rfl : p = ⟨r.idx, k, false⟩ := by simpa using hp'
      refine ⟨ls[r.idx.toNat], by simp only; omega, List.getElem?_eq_getElem hsl, rfl, hb.1, fun hne => ?_⟩
      rcases hf with hf | ⟨f1, f2, -⟩
      · exact absurd hf hne
      · have g1 : x.st = ls[r.idx.toNat].st := by rw [e1]
        have g2 : x.sl = ls[r.idx.toNat].sl := by rw [e1]
        exact ⟨g1 ▸ f1, g2 ▸ f2⟩

theorem pfold_inv {c : Cfg} {vs : List Val} {rs : List Req} (hok : AllOk vs) (hc : 0 ≤ c.minBal) (hr : ∀ r ∈ rs, r.Ok) : ∀ j, j ≤ rs.length → Inv c vs (pfold c vs (rs.take j))
  | 0, _ => Inv.new c vs
  | j + 1, h => by
    rw [pfold_succ c vs rs j (by omega)]
    exact (pfold_inv hok hc hr j (by omega)).step (pfold_spec hok hc hr j (by omega)).2.1 hc (hr _ (List.getElem_mem _))

/-- All that the laws ask of a step. -/
structure Fair (c : Cfg) (ls us : List Val) (qs : List Pay) : Prop where
  len : us.length = ls.length
  ok : AllOk us
  el : ∀ i x u, ls[i]? = some x → us[i]? = some u → El c i x u qs
  pay : ∀ p ∈ qs, PayOk ls p ∧ p.amt ≠ 0
  num : (qs.length : Int) ≤ c.parts
theorem pfold_fair {c : Cfg} {vs : List Val} {rs : List Req} (hok : AllOk vs) (hc : 0 ≤ c.minBal) (hp : 0 ≤ c.parts) (hr : ∀ r ∈ rs, r.Ok) :
    Fair c vs (pfold c vs (rs.take (min rs.length c.parts.toNat))).1 ((pfold c vs (rs.take (min rs.length c.parts.toNat))).2.filter keepB) := by
  have h := pfold_inv hok hc hr (min rs.length c.parts.toNat) (by omega)
  obtain ⟨s1, s2, s3⟩ := pfold_spec hok hc hr (min rs.length c.parts.toNat) (by omega)
  refine ⟨h.len, s2, fun i x u h1 h2 => ?_, fun p hp => ?_, ?_⟩
  · obtain ⟨f1, f2, f3, f4⟩ := h.el i x u h1 h2
    exact ⟨f1, f2, f3, by rw [sumTo_keep]; exact f4⟩
  · obtain ⟨hp1, hp2⟩ := List.mem_filter.1 hp
    exact ⟨h.pay p hp1, by simpa [keepB, delB] using hp2⟩
  · have := List.length_filter_le keepB (pfold c vs (rs.take (min rs.length c.parts.toNat))).2
    omega

end Go.Proofs.Ytbafgipegekbcaa
