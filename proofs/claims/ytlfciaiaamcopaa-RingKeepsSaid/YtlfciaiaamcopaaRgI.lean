/- Chapter 4: a ring beside rows of the call's own. Nothing of the program's text. -/
import Derived.Test.YtlfciaiaamcopaaRgH
import Derived.Test.YtlfciaiaamcopaaEqI
import Derived.Test.YtlfciaiaamcopaaApq
import Derived.Test.YtlfciaiaamcopaaRowi
namespace Go.Proofs.Ytlfciaiaamcopaa
open Go.RowKit

theorem own_keep {w w' : World} {base e size n : Nat} {v : Value} {xs : List Value} (h : w.ownsRow base e size v n xs) (hk : ∀ k, v.ownBlock = some k → w'.heap[k]? = w.heap[k]?) : w'.ownsRow base e size v n xs := by
  refine ⟨h.1, ?_⟩
  rcases h.2 with h2 | ⟨g, cap, cur, rfl, hb, hg, r⟩
  · exact .inl h2
  · exact .inr ⟨g, cap, cur, rfl, hb, (hk g rfl).trans hg, r⟩
theorem own_only {w w' : World} {base e size n : Nat} {v : Value} {xs : List Value} {F : Nat → Prop} (h : w.ownsRow base e size v n xs) (ho : Only w w' F) (hd : ∀ k, v.ownBlock = some k → ¬ F k) : w'.ownsRow base e size v n xs :=
  own_keep h fun k hk => ho.block k (h.lt k hk).2 (hd k hk)

/-- A ring, and a row of the call's own that lies apart from it. -/
structure Apart (b : Nat) (og : Option Nat) (v : Value) : Prop where
  no : ∀ k, v.ownBlock = some k → ¬ Of b og k

theorem Apart.newer {w : World} {b base e size n : Nat} {og og' : Option Nat} {v : Value} {xs : List Value} (h : Apart b og v) (hown : w.ownsRow base e size v n xs) (hN : Newer w og og') : Apart b og' v :=
  ⟨fun k hk ho => h.no k hk (Of.back hN (hown.lt k hk).2 ho)⟩

/-- The state of the law on the order: the ring holds L, pushed is P, popped is Q; all of it lies from B on, apart from each other. -/
structure Ord (B b size : Nat) (w : World) (og : Option Nat) (L P Q : List Int) (vp vq : Value) : Prop where
  ring : RingI w b og size L
  fr : From B b og
  op : w.ownsRow B 3 1 vp P.length (P.map (Value.int .i64))
  oq : w.ownsRow B 3 1 vq Q.length (Q.map (Value.int .i64))
  ap : Apart b og vp
  aq : Apart b og vq
  pq : ∀ k, vp.ownBlock = some k → vq.ownBlock ≠ some k
  hB : B ≤ w.heap.size

section
variable {B b size : Nat} {w w' : World} {og og' : Option Nat} {L L' P Q : List Int} {vp vq : Value}

theorem Ord.keep (h : Ord B b size w og L P Q vp vq) (hk : ∀ k, k < w.heap.size → w'.heap[k]? = w.heap[k]?) (hs : w.heap.size ≤ w'.heap.size) : Ord B b size w' og L P Q vp vq :=
  ⟨h.ring.keep (hk b h.ring.lt) (fun g e => hk g (h.ring.glt g e)), h.fr, own_keep h.op (fun k e => hk k (h.op.lt k e).2), own_keep h.oq (fun k e => hk k (h.oq.lt k e).2), h.ap, h.aq, h.pq, by have := h.hB; omega⟩
theorem Ord.alloc (h : Ord B b size w og L P Q vp vq) (o : Obj) : Ord B b size (w.alloc o) og L P Q vp vq := h.keep (fun k hk => Below.heap_alloc w o k hk) (by simp)
theorem Ord.drewN (h : Ord B b size w og L P Q vp vq) (m : Nat) : Ord B b size (w.drewN m) og L P Q vp vq := h.keep (fun _ _ => rfl) (Nat.le_refl _)

/-- A call on the ring. -/
theorem Ord.call (h : Ord B b size w og L P Q vp vq) (hR : RingI w' b og' size L') (hN : Newer w og og') (hO : Only w w' (Of b og)) : Ord B b size w' og' L' P Q vp vq :=
  ⟨hR, h.fr.newer hN h.hB, own_only h.op hO h.ap.no, own_only h.oq hO h.aq.no, h.ap.newer h.op hN, h.aq.newer h.oq hN, h.pq, by have := h.hB; have := hO.size; omega⟩

/-- One element more is pushed. -/
theorem Ord.pushed (h : Ord B b size w og L P Q vp vq) {x : Int} {vp' : Value} (hown : w'.ownsRow B 3 1 vp' (P.length + 1) (P.map (Value.int .i64) ++ [.int .i64 x])) (hg : w.grownBy w' vp.ownBlock)
    (hat : vp'.ownBlock = vp.ownBlock ∨ vp'.ownBlock = some (w.heap.size + 1)) : Ord B b size w' og L (P ++ [x]) Q vp' vq := by
  have hk : ∀ k, k < w.heap.size → some k ≠ vp.ownBlock → w'.heap[k]? = w.heap[k]? := fun k h1 h2 => hg.block k h1 h2
  refine ⟨h.ring.keep (hk b h.ring.lt (fun e => h.ap.no b e.symm (.inl rfl))) (fun g e => hk g (h.ring.glt g e) (fun e' => h.ap.no g e'.symm (.inr e))), h.fr, by simpa using hown, own_keep h.oq (fun k e => hk k (h.oq.lt k e).2 (fun e' => h.pq k e'.symm e)), ⟨?_⟩, h.aq, ?_, by have := h.hB; have := hg.size; omega⟩
  · intro k e
    rcases hat with h1 | h1
    · rw [h1] at e; exact h.ap.no k e
    · rw [h1] at e; injection e with e; exact of_new h.ring (by omega)
  · intro k e e'
    rcases hat with h1 | h1
    · rw [h1] at e; exact h.pq k e e'
    · rw [h1] at e; injection e with e
      have := (h.oq.lt k e').2; omega

/-- One element more is popped. -/
theorem Ord.popped (h : Ord B b size w og L P Q vp vq) {x : Int} {vq' : Value} (hown : w'.ownsRow B 3 1 vq' (Q.length + 1) (Q.map (Value.int .i64) ++ [.int .i64 x])) (hg : w.grownBy w' vq.ownBlock)
    (hat : vq'.ownBlock = vq.ownBlock ∨ vq'.ownBlock = some (w.heap.size + 1)) : Ord B b size w' og L P (Q ++ [x]) vp vq' := by
  have hk : ∀ k, k < w.heap.size → some k ≠ vq.ownBlock → w'.heap[k]? = w.heap[k]? := fun k h1 h2 => hg.block k h1 h2
  refine ⟨h.ring.keep (hk b h.ring.lt (fun e => h.aq.no b e.symm (.inl rfl))) (fun g e => hk g (h.ring.glt g e) (fun e' => h.aq.no g e'.symm (.inr e))), h.fr, own_keep h.op (fun k e => hk k (h.op.lt k e).2 (fun e' => h.pq k e e'.symm)), by simpa using hown, h.ap, ⟨?_⟩, ?_, by have := h.hB; have := hg.size; omega⟩
  · intro k e
    rcases hat with h1 | h1
    · rw [h1] at e; exact h.aq.no k e
    · rw [h1] at e; injection e with e; exact of_new h.ring (by omega)
  · intro k e e'
    rcases hat with h1 | h1
    · rw [h1] at e'; exact h.pq k e e'
    · rw [h1] at e'; injection e' with e'
      have := (h.op.lt k e).2; omega
end

/-- A row of the call's own that holds integers reads as them. -/
theorem ints_of_own {w : World} {base e n : Nat} {k : IntKind} {a : Option Addr} {m c : Nat} {zs : List Int} (h : w.ownsRow base e 1 (.slice a m c) n (zs.map (Value.int k))) : Ints w k a n zs := by
  have hl : n = zs.length := by have := h.1; simp at this; exact this.symm
  refine ⟨hl, ?_⟩
  rcases h.2 with ⟨_, h2⟩ | ⟨g, cap, cur, hv, _⟩
  · exact .inl (List.eq_nil_of_length_eq_zero (by omega))
  · have hg : a = some ⟨g, 0, none⟩ := by injection hv
    subst hg
    refine .inr ⟨g, 0, rfl, fun j hj => ?_⟩
    have := h.cells (g := g) rfl j (.int k zs[j]) (by simp [hj])
    rwa [add_off] at this

end Go.Proofs.Ytlfciaiaamcopaa
