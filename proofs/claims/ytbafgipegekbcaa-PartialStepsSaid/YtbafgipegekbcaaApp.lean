/- append of ONE element to a slice of the call's own, as one law: the world as it stands behind the one-element slice. Nothing of the program. -/
import Derived.Test.YtbafgipegekbcaaBase
namespace Go.Proofs.Ytbafgipegekbcaa
open Go.RowKit

theorem grownBy_of_alloc {w w' : World} {o : Obj} {row : Option Nat} (h : (w.alloc o).grownBy w' row) : w.grownBy w' row :=
  ⟨h.os, h.tape, h.output, Nat.le_trans (by simp) h.size, fun k hk hr => (h.block k (by simp; omega) hr).trans (Below.heap_alloc w o k hk)⟩

theorem wpList_append1 {P : Program} {ops : Array Oper} {rest : List Oper} {o : Oper} {a : Act} {Q : Exit → Act → World → Prop} {w : World} {u v : Value} {e : TypeId} {base n bytes : Nat} {xs : List Value} (t : TypeId) {s x : Operand}
    (hown : w.ownsRow base e 1 v n xs) (z : Value) (ht : P.underlying t = some (.slice e)) (hi : (P.info? e).map (fun i => (i.zero, i.size, i.bytes)) = some (some z, 1, bytes)) (hzs : z.cells.size = 1)
    (hn : (n + 1) * bytes ≤ 140737488355328) (hn' : n ≤ 1000000000) (hbase : base ≤ w.heap.size)
    (hgd : o.guard = none) (ho : o.op = .call { callee := .builtin .append, args := #[s, x], argTypes := #[t, t] }) (hs : a.eval s = v) (hx : a.eval x = .slice (some ⟨w.heap.size, 0, none⟩) 1 1) (hu : u.oneCell' = true)
    (h : ∀ v' w', w'.ownsRow base e 1 v' (n + 1) (xs ++ [u]) → w.grownBy w' v.ownBlock → wpList P ops Q rest (a.put o.dst v') w') : wpList P ops Q (o :: rest) a (w.alloc (.cells #[u] e)) := by
  obtain ⟨i, hi1, hi2, hi3, hi4⟩ := info_parts hi
  refine wpList_append_own (w.alloc (.cells #[u] e)) hgd s x t ho base e i z 1 bytes ht hi1 hi2 hi3 hi4 hzs (by decide) v n xs hs (hown.alloc _) ⟨w.heap.size, 0, none⟩ 1 1 [u] hx rfl ?_ ?_ ?_ hn ?_ ?_
  · intro j y hj
    match j, hj with
    | 0, hj => simp at hj; subst hj; simp [Addr.add, World.cell?_alloc_at]
  · intro y hy; simp at hy; subst hy; exact hu
  · unfold maxLen; omega
  · simp; omega
  · intro v' w' h1 h2 _
    exact h v' w' h1 (grownBy_of_alloc h2)

/-- append of a source without elements whose address is nil. -/
theorem run_append_nothing {P : Program} (w : World) {base n : Nat} {t ty e : TypeId} {i : TypeInfo} {size : Nat} {v : Value} {xs : List Value} (ht : P.underlying t = some (.slice e)) (hi : P.info? e = some i)
    (hown : w.ownsRow base e size v n xs) (c : Nat) : (Builtin.append_ #[t, t] ty #[v, .slice none 0 c]).run P w = .ok v w := by
  rcases hown.2 with ⟨rfl, rfl⟩ | ⟨g, cap, cur, rfl, _, _, hnc, _⟩
  · simp [Builtin.append_, run_underlying ht, sizeOf, typeInfo, hi, Builtin.lenOf, Builtin.firstCells]
  · simp [Builtin.append_, run_underlying ht, sizeOf, typeInfo, hi, Builtin.lenOf, Builtin.firstCells, hnc, storeCells]

theorem add_off (b off j : Nat) : (⟨b, off, none⟩ : Addr).add j = ⟨b, off + j, none⟩ := by
  unfold Addr.add
  split
  · rename_i h; subst h; rfl
  · rfl

/-- append of a slice that reads as integers to a row of the call's own. -/
theorem wpList_appendI {P : Program} {ops : Array Oper} {rest : List Oper} {o : Oper} {a : Act} {Q : Exit → Act → World → Prop} {w : World} {v : Value} {e : TypeId} {base n bytes m c : Nat} {xs : List Value} {A : Option Addr} {k : IntKind} {zs : List Int} (t : TypeId) {s x : Operand}
    (hown : w.ownsRow base e 1 v n xs) (hr : Ints w k A m zs) (z : Value) (ht : P.underlying t = some (.slice e)) (hi : (P.info? e).map (fun i => (i.zero, i.size, i.bytes)) = some (some z, 1, bytes)) (hzs : z.cells.size = 1)
    (hn : (n + m) * bytes ≤ 140737488355328) (hn' : n + m ≤ 1000000000) (hbase : base ≤ w.heap.size)
    (hgd : o.guard = none) (ho : o.op = .call { callee := .builtin .append, args := #[s, x], argTypes := #[t, t] }) (hs : a.eval s = v) (hx : a.eval x = .slice A m c)
    (h : ∀ v' w', w'.ownsRow base e 1 v' (n + m) (xs ++ zs.map (Value.int k)) → w.grownBy w' v.ownBlock → wpList P ops Q rest (a.put o.dst v') w') : wpList P ops Q (o :: rest) a w := by
  obtain ⟨i, hi1, hi2, hi3, hi4⟩ := info_parts hi
  obtain ⟨hm, hr⟩ := hr
  rcases A with _ | ⟨b, off, spot⟩
  · have hz : zs = [] := by
      rcases hr with h | ⟨b, off, h, _⟩
      · exact h
      · cases h
    subst hz
    have hm : m = 0 := by simpa using hm
    subst hm
    have hrun := run_append_nothing (P := P) w (ty := o.type) ht hi1 hown c
    refine wpList_plain hgd fun K hK => ?_
    unfold Oper.wp
    simp [execOp, ho, resolve, invoke, builtin, hs, hx, hrun, Result.andThen]
    exact hK _ _ (h v w (by simpa using hown) (World.grownBy.refl _ _))
  · refine wpList_append_own w hgd s x t ho base e i z 1 bytes ht hi1 hi2 hi3 hi4 hzs (by decide) v n xs hs hown ⟨b, off, spot⟩ m c (zs.map (Value.int k)) hx (by simp [hm]) ?_ ?_ ?_ hn hbase ?_
    · intro j y hj
      rcases hr with h0 | ⟨b', off', h0, hc⟩
      · subst h0; simp at hj
      · simp only [Option.some.injEq, Addr.mk.injEq] at h0
        obtain ⟨rfl, rfl, rfl⟩ := h0
        have hjl : j < zs.length := by
          have := (List.getElem?_eq_some_iff.1 hj).1
          simpa using this
        have h1 := hc j hjl
        rw [add_off, h1]
        simpa [hjl] using hj
    · exact ints_oneCell k zs
    · unfold maxLen; omega
    · intro v' w' h1 h2 _
      exact h v' w' h1 h2

theorem ownsRow_base0 {w : World} {base e size n : Nat} {v : Value} {xs : List Value} (h : w.ownsRow base e size v n xs) : w.ownsRow 0 e size v n xs := by
  obtain ⟨h1, h2⟩ := h
  refine ⟨h1, ?_⟩
  rcases h2 with h2 | ⟨g, cap, cur, hv, hg, r⟩
  · exact .inl h2
  · exact .inr ⟨g, cap, cur, hv, Nat.zero_le _, r⟩

theorem own_form {w : World} {base e size n : Nat} {v : Value} {xs : List Value} (h : w.ownsRow base e size v n xs) (hn : 0 < n) :
    ∃ g cap, v = .slice (some ⟨g, 0, none⟩) n cap ∧ base ≤ g ∧ g < w.heap.size ∧ n ≤ cap := by
  have hl := h.lt
  rcases h.2 with ⟨_, h2⟩ | ⟨g, cap, cur, rfl, hg, _, hc, _⟩
  · omega
  · exact ⟨g, cap, rfl, hg, (hl g rfl).2, hc⟩

/-- Whatever is owned: the slice's value is nil or a row's head; its length. -/
theorem own_slice {w : World} {base e size n : Nat} {v : Value} {xs : List Value} (h : w.ownsRow base e size v n xs) : ∃ a cap, v = .slice a n cap := by
  rcases h.2 with ⟨rfl, rfl⟩ | ⟨g, cap, cur, rfl, _⟩
  · exact ⟨_, _, rfl⟩
  · exact ⟨_, _, rfl⟩

end Go.Proofs.Ytbafgipegekbcaa
