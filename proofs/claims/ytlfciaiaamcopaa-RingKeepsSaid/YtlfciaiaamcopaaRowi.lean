/- What a row's argument says of memory, turned into the walks' words. Nothing of the program. -/
import Derived.Test.YtlfciaiaamcopaaBase
import Derived.ProofKit
import Derived.OpenShut
import Derived.ShutString
import Derived.ChangeOld
namespace Go.Proofs.Ytlfciaiaamcopaa
open Go.RowKit

/-- What the walk is told of a slice of integers that came in. -/
def IsRow (k : IntKind) (w : World) (a : Option Addr) (len cap : Nat) (zs : List Int) : Prop :=
  (a = none ∧ len = 0 ∧ cap = 0 ∧ zs = []) ∨
  ∃ x, a = some x ∧ len ≤ cap ∧ cap ≤ maxLen ∧ zs.length = cap ∧ (∀ i, i < zs.length → w.cell? (x.add i) = some (.int k (zs.getD i 0))) ∧ ∀ n ∈ zs, (Lit.int k n).wf = true

theorem IsRow.ints {k : IntKind} {w : World} {a : Option Addr} {len cap : Nat} {zs : List Int} (h : IsRow k w a len cap zs) :
    Ints w k a len (zs.take len) ∧ ∀ n ∈ zs.take len, (Lit.int k n).wf = true := by
  rcases h with ⟨rfl, rfl, rfl, rfl⟩ | ⟨x, rfl, hl, hm, hz, hc, hwf⟩
  · exact ⟨⟨rfl, .inl rfl⟩, by simp⟩
  · refine ⟨⟨by simp; omega, ?_⟩, fun n hn => hwf n (List.mem_of_mem_take hn)⟩
    by_cases h0 : len = 0
    · exact .inl (by simp [h0])
    · right
      obtain ⟨b, off, spot⟩ := x
      have h1 := hc 0 (by omega)
      have hspot : spot = none := by simpa [Addr.add] using World.cell?_spot h1
      subst hspot
      refine ⟨b, off, rfl, fun j hj => ?_⟩
      simp at hj
      have := hc j (by omega)
      have e : (⟨b, off, none⟩ : Addr).add j = ⟨b, off + j, none⟩ := by
        unfold Addr.add
        split
        · rename_i h; subst h; rfl
        · rfl
      rw [e] at this
      rw [this]
      simp [List.getD, show j < zs.length by omega]

end Go.Proofs.Ytlfciaiaamcopaa
