/- Small words for the walks of this seat: a slice that reads as a list of integers; endings. Nothing of the program. -/
import Derived.WalkKit
import Derived.Lib.Hide
import Derived.WalkSpells
import Derived.Deep.QuietTactic
import Derived.BigQuiet
import Derived.Deep.LoopGhost
import Derived.StillTailTactics
namespace Go.Proofs.Ytbafgipegekbcaa
open Go.RowKit

theorem ret2 {a b c d : Value} (h : a = c) (h' : b = d) : Ending.returned (.tuple #[a, b]) = .returned (.tuple #[c, d]) := by rw [h, h']
theorem ret1 {a c : Value} (h : a = c) : Ending.returned a = .returned c := by rw [h]
theorem int_eq {k : IntKind} {a b : Int} (h : a = b) : Value.int k a = Value.int k b := by rw [h]
theorem bool_eq {a b : Bool} (h : a = b) : Value.bool a = Value.bool b := by rw [h]

/-- A region that draws its order, whose operations but a forced tail only read: one walk of the text's order; the world behind the draw under its own name. -/
theorem wp_region_tail {P : Program} {id : Nat} {Q : Exit → Act → World → Prop} {a : Act} {w : World} {l : List Oper} (n : Nat) (hm : P.follows .mixedOrders = true) (hB : Region.lexTailB .any l.toArray n = true)
    (h : wpStill P l.toArray w.drew (fun a' => wpList P l.toArray Q (l.drop n) a' w.drew) (l.take n) a) : (Code.region id l.toArray true).wp P Q a w :=
  wp_region_still_tail n hm hB h

/-- The slice value with address a, length n reads as the integers xs (a nil or empty slice reads as the empty list). -/
def Ints (w : World) (k : IntKind) (a : Option Addr) (n : Nat) (xs : List Int) : Prop :=
  n = xs.length ∧ (xs = [] ∨ ∃ b o, a = some ⟨b, o, none⟩ ∧ ∀ j (h : j < xs.length), w.cell? ⟨b, o + j, none⟩ = some (.int k xs[j]))

theorem Ints.drewN {w : World} {k : IntKind} {a : Option Addr} {n : Nat} {xs : List Int} (h : Ints w k a n xs) (m : Nat) : Ints (w.drewN m) k a n xs := h

theorem Ints.keep {w w' : World} {k : IntKind} {a : Option Addr} {n : Nat} {xs : List Int} (h : Ints w k a n xs)
    (hk : ∀ ad, a = some ad → w'.heap[ad.block]? = w.heap[ad.block]?) : Ints w' k a n xs := by
  refine ⟨h.1, ?_⟩
  rcases h.2 with h | ⟨b, o, rfl, hc⟩
  · exact .inl h
  · refine .inr ⟨b, o, rfl, fun j hj => ?_⟩
    exact (World.cell?_of_block (w := w) (a := ⟨b, o + j, none⟩) (hk ⟨b, o, none⟩ rfl)).trans (hc j hj)

end Go.Proofs.Ytbafgipegekbcaa
