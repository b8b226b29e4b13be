/- append of a slice that reads as integers, as ONE operation (for a region that draws its order). Nothing of the program. -/
import Derived.Test.YtmihnoiofbfbhaaApp
namespace Go.Proofs.Ytmihnoiofbfbhaa
open Go.RowKit

theorem step_appendI {P : Program} {ops : Array Oper} {o : Oper} {a : Act} {K : Act → World → Prop} {Q : Exit → Act → World → Prop} {E : Prop} {w : World} {v : Value} {e : TypeId} {base n bytes m c : Nat} {xs : List Value} {A : Option Addr} {k : IntKind} {zs : List Int} (t : TypeId) {s x : Operand}
    (hown : w.ownsRow base e 1 v n xs) (hr : Ints w k A m zs) (z : Value) (ht : P.underlying t = some (.slice e)) (hi : (P.info? e).map (fun i => (i.zero, i.size, i.bytes)) = some (some z, 1, bytes)) (hzs : z.cells.size = 1)
    (hn : (n + m) * bytes ≤ 140737488355328) (hn' : n + m ≤ 1000000000) (hbase : base ≤ w.heap.size)
    (hgd : o.guard = none) (ho : o.op = .call { callee := .builtin .append, args := #[s, x], argTypes := #[t, t] }) (hs : a.eval s = v) (hx : a.eval x = .slice A m c)
    (h : ∀ v' w', w'.ownsRow base e 1 v' (n + m) (xs ++ zs.map (Value.int k)) → w.grownBy w' v.ownBlock → K (a.put o.dst v') w') : if Region.wanted o (yielded ops a.tmps) = true then o.wp P a w K Q else E := by
  have hw : Region.wanted o (yielded ops a.tmps) = true := by simp [Region.wanted, hgd]
  rw [if_pos hw]
  obtain ⟨i, hi1, hi2, hi3, hi4⟩ := info_parts hi
  obtain ⟨hm, hr⟩ := hr
  rcases A with _ | ⟨b, off, spot⟩
  · have hz : zs = [] := by
      rcases hr with h | ⟨b, off, h, _⟩
      · exact h
      · cases h
    subst hz
    have hm : m = 0 := by simpa using hm
    subst hm
    have hrun := run_append_nothing (P := P) w (ty := o.type) ht hi1 hown c
    unfold Oper.wp
    simp [execOp, ho, resolve, invoke, builtin, hs, hx, hrun, Result.andThen]
    exact h v w (by simpa using hown) (World.grownBy.refl _ _)
  · refine wp_append_own w s x t ho base e i z 1 bytes ht hi1 hi2 hi3 hi4 hzs (by decide) v n xs hs hown ⟨b, off, spot⟩ m c (zs.map (Value.int k)) hx (by simp [hm]) ?_ ?_ ?_ hn hbase ?_
    · intro j y hj
      rcases hr with h0 | ⟨b', off', h0, hc⟩
      · subst h0; simp at hj
      · simp only [Option.some.injEq, Addr.mk.injEq] at h0
        obtain ⟨rfl, rfl, rfl⟩ := h0
        have hjl : j < zs.length := by
          have := (List.getElem?_eq_some_iff.1 hj).1
          simpa using this
        have h1 := hc j hjl
        rw [add_off, h1]
        simpa [hjl] using hj
    · exact ints_oneCell k zs
    · unfold maxLen; omega
    · intro v' w' h1 h2 _
      exact h v' w' h1 h2

end Go.Proofs.Ytmihnoiofbfbhaa
