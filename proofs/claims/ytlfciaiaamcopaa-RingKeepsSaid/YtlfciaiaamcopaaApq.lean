/- append of one element, and where the new row lies. Nothing of the program. -/
import Derived.Test.YtlfciaiaamcopaaApp
namespace Go.Proofs.Ytlfciaiaamcopaa
open Go.RowKit

theorem wpList_append1_at {P : Program} {ops : Array Oper} {rest : List Oper} {o : Oper} {a : Act} {Q : Exit → Act → World → Prop} {w : World} {u v : Value} {e : TypeId} {base n bytes : Nat} {xs : List Value} (t : TypeId) {s x : Operand}
    (hown : w.ownsRow base e 1 v n xs) (z : Value) (ht : P.underlying t = some (.slice e)) (hi : (P.info? e).map (fun i => (i.zero, i.size, i.bytes)) = some (some z, 1, bytes)) (hzs : z.cells.size = 1)
    (hn : (n + 1) * bytes ≤ 140737488355328) (hn' : n ≤ 1000000000) (hbase : base ≤ w.heap.size)
    (hgd : o.guard = none) (ho : o.op = .call { callee := .builtin .append, args := #[s, x], argTypes := #[t, t] }) (hs : a.eval s = v) (hx : a.eval x = .slice (some ⟨w.heap.size, 0, none⟩) 1 1) (hu : u.oneCell' = true)
    (h : ∀ v' w', w'.ownsRow base e 1 v' (n + 1) (xs ++ [u]) → w.grownBy w' v.ownBlock → (v'.ownBlock = v.ownBlock ∨ v'.ownBlock = some (w.heap.size + 1)) → wpList P ops Q rest (a.put o.dst v') w') : wpList P ops Q (o :: rest) a (w.alloc (.cells #[u] e)) := by
  obtain ⟨i, hi1, hi2, hi3, hi4⟩ := info_parts hi
  refine wpList_append_own_at (w.alloc (.cells #[u] e)) hgd s x t ho base e i z 1 bytes ht hi1 hi2 hi3 hi4 hzs (by decide) v n xs hs (hown.alloc _) ⟨w.heap.size, 0, none⟩ 1 1 [u] hx rfl (cell_one_new _ _ _) ?_ ?_ hn ?_ ?_
  · intro y hy; simp at hy; subst hy; exact hu
  · unfold maxLen; omega
  · simp; omega
  · intro v' w' h1 h2 _ h4
    refine h v' w' h1 (grownBy_of_alloc h2) ?_
    rcases h4 with h4 | h4
    · exact .inl h4
    · right; rw [h4]; simp

end Go.Proofs.Ytlfciaiaamcopaa
