/- The ring of integers in memory: what it holds, and what a call may touch. Nothing of the program. -/
import Derived.Test.YtlfciaiaamcopaaBase
import Derived.Test.YtlfciaiaamcopaaApp
import Derived.BigRegion
namespace Go.Proofs.Ytlfciaiaamcopaa
open Go.RowKit

theorem blk_cell {w : World} {b : Nat} {cs : Array Value} {t : TypeId} (h : w.heap[b]? = some (.cells cs t (0, 0))) (i : Nat) : w.cell? ⟨b, i, none⟩ = cs[i]? := cell_of_row w b i cs t (0, 0) h
theorem blk_frozen {w : World} {b : Nat} {cs : Array Value} {t : TypeId} (h : w.heap[b]? = some (.cells cs t (0, 0))) (i : Nat) : w.frozen? ⟨b, i, none⟩ = false := by
  simp [World.frozen?, h]
theorem blk_lt {w : World} {b : Nat} {o : Obj} (h : w.heap[b]? = some o) : b < w.heap.size := (Array.getElem?_eq_some_iff.1 h).1
theorem blk_set {w : World} {b : Nat} {cs : Array Value} {t : TypeId} (h : w.heap[b]? = some (.cells cs t (0, 0))) (i : Nat) (u : Value) :
    (w.setCell ⟨b, i, none⟩ u).heap[b]? = some (.cells (cs.setIfInBounds i u) t (0, 0)) := by
  simp [World.setCell, Array.getElem?_modify, h]
theorem blk_far {w : World} {b b' : Nat} (hne : b' ≠ b) (i : Nat) (u : Value) : (w.setCell ⟨b, i, none⟩ u).heap[b']? = w.heap[b']? := Below.heap_setCell w ⟨b, i, none⟩ u b' hne
theorem blk_new (w : World) (o : Obj) : (w.alloc o).heap[w.heap.size]? = some o := heap_alloc_new w o
theorem blk_old {w : World} {b : Nat} {o : Obj} (h : w.heap[b]? = some o) (o' : Obj) : (w.alloc o').heap[b]? = some o := (Below.heap_alloc w o' b (blk_lt h)).trans h

/-- Nothing but the blocks of F (and new ones) has changed. -/
structure Only (w w' : World) (F : Nat → Prop) : Prop where
  os : w'.os = w.os
  tape : w'.tape = w.tape
  output : w'.output = w.output
  size : w.heap.size ≤ w'.heap.size
  block : ∀ k, k < w.heap.size → ¬ F k → w'.heap[k]? = w.heap[k]?

theorem Only.refl (w : World) (F : Nat → Prop) : Only w w F := ⟨rfl, rfl, rfl, Nat.le_refl _, fun _ _ _ => rfl⟩
theorem Only.drewN (w : World) (n : Nat) (F : Nat → Prop) : Only w (w.drewN n) F := ⟨rfl, rfl, rfl, Nat.le_refl _, fun _ _ _ => rfl⟩
theorem Only.trans {a b c : World} {F G H : Nat → Prop} (h : Only a b F) (k : Only b c G) (hF : ∀ x, F x → H x) (hG : ∀ x, x < a.heap.size → G x → H x) : Only a c H :=
  ⟨k.os.trans h.os, k.tape.trans h.tape, k.output.trans h.output, Nat.le_trans h.size k.size, fun i hi hn =>
    (k.block i (Nat.lt_of_lt_of_le hi h.size) (fun e => hn (hG i hi e))).trans (h.block i hi (fun e => hn (hF i e)))⟩
theorem Only.mono {a b : World} {F G : Nat → Prop} (h : Only a b F) (hF : ∀ x, x < a.heap.size → F x → G x) : Only a b G :=
  ⟨h.os, h.tape, h.output, h.size, fun i hi hn => h.block i hi (fun e => hn (hF i hi e))⟩
theorem Only.alloc (w : World) (o : Obj) (F : Nat → Prop) : Only w (w.alloc o) F := ⟨rfl, rfl, rfl, by simp, fun k hk _ => Below.heap_alloc w o k hk⟩
theorem Only.setCell (w : World) {a : Addr} (u : Value) {F : Nat → Prop} (hF : F a.block) : Only w (w.setCell a u) F :=
  ⟨rfl, rfl, rfl, by simp [World.setCell], fun k _ hn => Below.heap_setCell w a u k (fun e => hn (e ▸ hF))⟩
theorem Only.of_below {w w' : World} {B : Nat} (h : Below B w w') {F : Nat → Prop} (hF : ∀ k, B ≤ k → k < w.heap.size → F k) : Only w w' F :=
  ⟨h.os, h.tape, h.output, h.size, fun k hk hn => h.block k (by
    rcases Nat.lt_or_ge k B with h1 | h1
    · exact h1
    · exact absurd (hF k h1 hk) hn)⟩
theorem Only.below {w w' : World} {B : Nat} {F : Nat → Prop} (h : Only w w' F) (hB : B ≤ w.heap.size) (hF : ∀ k, k < B → ¬ F k) : Below B w w' :=
  ⟨h.os, h.tape, h.output, h.size, fun k hk => h.block k (by omega) (hF k hk)⟩
theorem Only.grown {w w' : World} {row : Option Nat} (h : w.grownBy w' row) : Only w w' (fun k => some k = row) :=
  ⟨h.os, h.tape, h.output, h.size, fun k hk hn => h.block k hk hn⟩

/-- The ring with an array of slots: block b is the struct, block g the array. -/
structure RG (w : World) (b g c first size : Nat) (arr : Array Value) (L : List Int) : Prop where
  ne : g ≠ b
  str : w.heap[b]? = some (.cells #[.slice (some ⟨g, 0, none⟩) c c, .int .i64 size, .int .i64 first, .int .i64 L.length] 60 (0, 0))
  row : w.heap[g]? = some (.cells arr 3 (0, 0))
  asz : arr.size = c
  flt : first < c
  nle : L.length ≤ c
  cle : c ≤ size
  at_ : ∀ i (h : i < L.length), arr[(first + i) % c]? = some (.int .i64 L[i])
  vals : ∀ i, i < c → ∃ x : Int, arr[i]? = some (.int .i64 x)

/-- The ring without an array. -/
structure RN (w : World) (b size : Nat) : Prop where
  str : w.heap[b]? = some (.cells #[.slice none 0 0, .int .i64 size, .int .i64 (0 : Nat), .int .i64 (0 : Nat)] 60 (0, 0))

/-- A ring at block b, its array (if any) og, its size, its elements. -/
def RingI (w : World) (b : Nat) (og : Option Nat) (size : Nat) (L : List Int) : Prop :=
  (1 ≤ size ∧ size ≤ 1048576) ∧ ((og = none ∧ L = [] ∧ RN w b size) ∨ ∃ g c first arr, og = some g ∧ RG w b g c first size arr L)

/-- The array is the old one, none, or new. -/
def Newer (w : World) (og og' : Option Nat) : Prop := og' = og ∨ og' = none ∨ ∃ g, og' = some g ∧ w.heap.size ≤ g

theorem RingI.lt {w : World} {b size : Nat} {og : Option Nat} {L : List Int} (h : RingI w b og size L) : b < w.heap.size := by
  rcases h.2 with ⟨_, _, h⟩ | ⟨g, c, f, arr, _, h⟩
  · exact blk_lt h.str
  · exact blk_lt h.str
theorem RingI.glt {w : World} {b size : Nat} {og : Option Nat} {L : List Int} (h : RingI w b og size L) : ∀ g, og = some g → g < w.heap.size := by
  intro g hg
  rcases h.2 with ⟨h1, _, h⟩ | ⟨g', c, f, arr, h1, h⟩
  · rw [h1] at hg; cases hg
  · rw [h1] at hg; cases hg; exact blk_lt h.row
theorem RingI.le {w : World} {b size : Nat} {og : Option Nat} {L : List Int} (h : RingI w b og size L) : L.length ≤ size := by
  rcases h.2 with ⟨_, h, _⟩ | ⟨g, c, f, arr, _, h⟩
  · subst h; simp
  · exact Nat.le_trans h.nle h.cle
theorem RingI.keep {w w' : World} {b size : Nat} {og : Option Nat} {L : List Int} (h : RingI w b og size L) (hb : w'.heap[b]? = w.heap[b]?) (hg : ∀ g, og = some g → w'.heap[g]? = w.heap[g]?) : RingI w' b og size L := by
  refine ⟨h.1, ?_⟩
  rcases h.2 with ⟨h1, h2, h⟩ | ⟨g, c, f, arr, h1, h⟩
  · exact .inl ⟨h1, h2, ⟨hb.trans h.str⟩⟩
  · exact .inr ⟨g, c, f, arr, h1, ⟨h.ne, hb.trans h.str, (hg g h1).trans h.row, h.asz, h.flt, h.nle, h.cle, h.at_, h.vals⟩⟩
theorem RingI.only {w w' : World} {b size : Nat} {og : Option Nat} {L : List Int} {F : Nat → Prop} (h : RingI w b og size L) (ho : Only w w' F) (hb : ¬ F b) (hg : ∀ g, og = some g → ¬ F g) : RingI w' b og size L :=
  h.keep (ho.block b h.lt hb) (fun g e => ho.block g (h.glt g e) (hg g e))

/-- What a call on the ring may touch. -/
def Of (b : Nat) (og : Option Nat) : Nat → Prop := fun k => k = b ∨ og = some k

end Go.Proofs.Ytlfciaiaamcopaa
