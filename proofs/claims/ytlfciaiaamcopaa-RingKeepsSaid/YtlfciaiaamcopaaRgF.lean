/- The ring of integers: the walk of Push. -/
import Derived.Test.YtlfciaiaamcopaaRgE
namespace Go.Proofs.Ytlfciaiaamcopaa
open Go.RowKit

theorem Newer.refl (w : World) (og : Option Nat) : Newer w og og := .inl rfl
theorem Newer.trans {w wr : World} {a b c : Option Nat} (h : Newer w a b) (k : Newer wr b c) (hs : w.heap.size ≤ wr.heap.size) : Newer w a c := by
  rcases k with rfl | rfl | ⟨g, rfl, hg⟩
  · exact h
  · exact .inr (.inl rfl)
  · exact .inr (.inr ⟨g, rfl, by omega⟩)
theorem Of.back {w : World} {b : Nat} {og og' : Option Nat} (h : Newer w og og') {x : Nat} (hx : x < w.heap.size) (ho : Of b og' x) : Of b og x := by
  rcases ho with ho | ho
  · exact .inl ho
  · rcases h with rfl | rfl | ⟨g, rfl, hg⟩
    · exact .inr ho
    · cases ho
    · injection ho with ho; omega
theorem Only.step {w wr w' : World} {b : Nat} {og og' : Option Nat} (h : Only w wr (Of b og)) (hN : Newer w og og') (k : Only wr w' (Of b og')) : Only w w' (Of b og) :=
  h.trans k (fun _ h => h) (fun _ hx h => Of.back hN hx h)

/-- What Push leaves. -/
def Pushed (w : World) (b : Nat) (og : Option Nat) (size : Nat) (L xs : List Int) (n : Nat) (e : Ending) (w' : World) : Prop :=
  e = .returned (.int .i64 n) ∧ ∃ og', Newer w og og' ∧ RingI w' b og' size (L ++ xs.take n) ∧ Only w w' (Of b og)

theorem room_store {w : World} {b g c f size y : Nat} {v : Int} {arr : Array Value} {L : List Int} (hg : RG w b g c f size arr L) (hlt : L.length < c) (x : Int) (m : Nat) (hy : y = (f + L.length) % c) (hv : v = (L.length + 1 : Nat)) :
    RG ((((w.setCell ⟨g, y, none⟩ (.int .i64 x)).setCell ⟨b, 3, none⟩ (.int .i64 v))).drewN m) b g c f size (arr.setIfInBounds y (.int .i64 x)) (L ++ [x]) := by
  subst hy; subst hv
  have hmod : (f + L.length) % c < c := Nat.mod_lt _ (by omega)
  refine ⟨hg.ne, ?_, ?_, by simpa using hg.asz, hg.flt, by simp; omega, hg.cle, ?_, ?_⟩
  · have s1 := (blk_far (w := w) (Ne.symm hg.ne) ((f + L.length) % c) (.int .i64 x)).trans hg.str
    refine (blk_set s1 3 _).trans ?_
    simp
  · exact (blk_far (w := w.setCell ⟨g, (f + L.length) % c, none⟩ (.int .i64 x)) hg.ne 3 _).trans (blk_set hg.row _ _)
  · intro i hi
    simp at hi
    rw [Array.getElem?_setIfInBounds]
    by_cases hil : i = L.length
    · subst hil
      rw [if_pos rfl, if_pos (by rw [hg.asz]; exact hmod)]
      simp
    · rw [if_neg (ne_mod hg.flt hlt (by omega) (by omega)), hg.at_ i (by omega)]
      rw [List.getElem_append_left (by omega)]
  · intro i hi
    rw [Array.getElem?_setIfInBounds]
    by_cases e : (f + L.length) % c = i
    · rw [if_pos e, if_pos (by rw [hg.asz]; exact hmod)]; exact ⟨x, rfl⟩
    · rw [if_neg e]; exact hg.vals i hi

set_option maxHeartbeats 800000 in
theorem push_some {w : World} {b size bs os m cs n fr : Nat} {og : Option Nat} {L xs : List Int} (h : RingI w b og size L) (hm : m = xs.length) (hmc : m ≤ cs) (hm2 : m ≤ 1048576) (hfr : fr = size - L.length) (hn : n = min m fr)
    (hsrc : ∀ j (h : j < xs.length), w.cell? ⟨bs, os + j, none⟩ = some (.int .i64 xs[j])) (hbs : ¬ Of b og bs) (hbl : bs < w.heap.size) :
    Calls Try.prog 10 #[.pointer (some ⟨b, 0, none⟩), .slice (some ⟨bs, os, none⟩) m cs] w (Pushed w b og size L xs n) := by
  have hs := h.1
  have hle := h.le
  have hfree := free_any h
  rw [show ((size : Int) - (L.length : Int)) = (fr : Int) from by omega] at hfree
  have hmin : (if fr < m then (fr : Int) else (m : Int)) = (n : Int) := by split <;> omega
  have hnm : n ≤ m := by omega
  have hnm' : n ≤ fr := by omega
  have HF := Lib.hid hfree
  have HR := Lib.hid h
  have HM := Lib.hid hm
  have HN := Lib.hid hn
  have HS := Lib.hid hsrc
  have HFr := Lib.hid hfr
  clear hfree h hm hn hsrc hfr
  go_enter Try.func10, Try.ntmps10
  go_wp2_with fail
  refine HF.out.mono ?_
  rintro e w1 ⟨rfl, m1, rfl⟩
  go_wp2_with fail
  go_loopg [17] n (fun k i wr => ∃ (j : Nat) (og1 : Option Nat), j + k = n ∧ i = .int .i64 j ∧ Newer w og og1 ∧ RingI wr b og1 size (L ++ xs.take j) ∧ Only w wr (Of b og))
  case atStart => exact ⟨0, og, by omega, rfl, Newer.refl _ _, by simpa using HR.out.keep (w' := w.drewN m1) rfl (fun _ _ => rfl), Only.drewN _ _ _⟩
  case round =>
    obtain ⟨j, og1, hjn, rfl, hN1, hR1, hO1⟩ := hrel
    have hlj : (L ++ xs.take j).length = L.length + j := by have := HM.out; simp; omega
    have HO1 := Lib.hid hO1
    have HN1 := Lib.hid hN1
    have HLJ := Lib.hid hlj
    have HR1 := Lib.hid hR1
    have HJ := Lib.hid hjn
    clear hO1 hN1 hlj hR1 hjn
    by_cases hlt : j < n
    · have hjx : j < xs.length := by have := HM.out; omega
      have hcx : wr.cell? ⟨bs, os + j, none⟩ = some (.int .i64 xs[j]) := (World.cell?_of_block (w := w) (a := ⟨bs, os + j, none⟩) (HO1.out.block bs hbl hbs)).trans (HS.out j hjx)
      have hgr := grow_any HR1.out (by rw [HLJ.out]; have := HFr.out; omega)
      have HG := Lib.hid hgr
      clear hgr
      go_wp2_with fail
      refine HG.out.mono ?_
      rintro e w2 ⟨rfl, og2, hN2, ⟨g, c, f, arr, rfl, hg, hltc⟩, hO2⟩
      rw [HLJ.out] at hltc
      have hf := hg.flt
      have hcl := hg.cle
      have hne := hg.ne
      have hne' : ¬ b = g := fun h => hne h.symm
      have e0 : w2.cell? ⟨b, 0, none⟩ = some (.slice (some ⟨g, 0, none⟩) c c) := by rw [blk_cell hg.str]; rfl
      have e2 : w2.cell? ⟨b, 2, none⟩ = some (.int .i64 f) := by rw [blk_cell hg.str]; rfl
      have e3 : w2.cell? ⟨b, 3, none⟩ = some (.int .i64 ((L.length + j : Nat) : Int)) := by rw [blk_cell hg.str, ← HLJ.out]; rfl
      have f3 := blk_frozen hg.str 3
      obtain ⟨y, hy⟩ : ∃ y, y = (f + (L.length + j)) % c := ⟨_, rfl⟩
      have hyc : y < c := by rw [hy]; exact Nat.mod_lt _ (by omega)
      obtain ⟨old, hold⟩ := hg.vals y hyc
      have ea : w2.cell? ⟨g, y, none⟩ = some (.int .i64 old) := by rw [blk_cell hg.row]; exact hold
      have fa := blk_frozen hg.row y
      have HG2 := Lib.hid hg
      have HY := Lib.hid hy
      have HO2 := Lib.hid hO2
      have HN2 := Lib.hid hN2
      obtain ⟨q, hq⟩ : ∃ q, q = L.length + j := ⟨_, rfl⟩
      rw [← hq] at e3 hltc
      have HQ := Lib.hid hq
      clear hg hO2 hN2 hold
      obtain ⟨z, hz⟩ : ∃ z, z = f + q := ⟨_, rfl⟩
      have w1 : IntKind.i64.wrap ((f : Int) + (q : Int)) = (z : Int) := by rw [IntWalk.i64_in _ (by omega)]; omega
      have t1 : Int.tmod (z : Int) (c : Int) = (y : Int) := by rw [hy, ← hq, ← hz, Int.tmod_eq_emod_of_nonneg (by omega)]; rfl
      have hc0 : ((c : Int) == 0) = false := by rw [beq_eq_false_iff_ne]; omega
      have hc1 : ¬ c = 0 := by omega
      have w3 : IntKind.i64.wrap (y : Int) = (y : Int) := IntWalk.i64_in _ (by omega)
      have i1 : (0 : Int) ≤ (y : Int) := by omega
      have i2 : (y : Int) < (c : Int) := by omega
      have HZ := Lib.hid hz
      clear hy hz hq
      go_wp2
      refine wp_region_tail 21 (by kernel_rfl) (by kernel_rfl) ?_
      simp only [List.take_succ_cons, List.take_zero, List.drop_succ_cons, List.drop_zero]
      repeat still_step
      refine wpStill_nil ?_
      clear w1 t1 hc0 w3
      go_wp2
      go_roundg (n - (j + 1))
      case measure => have := HJ.out; omega
      case rel =>
        have hlen := HLJ.out
        have hst := room_store (y := y) (v := (q : Int) + 1) HG2.out (by rw [hlen, ← HQ.out]; exact hltc) xs[j] 1 (by rw [hlen]; exact HY.out) (by rw [hlen, HQ.out]; omega)
        have htk : L ++ xs.take j ++ [xs[j]] = L ++ xs.take (j + 1) := by rw [List.append_assoc, List.take_succ_eq_append_getElem hjx]
        rw [htk] at hst
        have F : ∀ k, (k = b ∨ k = g) → Of b (some g) k := by
          rintro k (rfl | rfl)
          · exact .inl rfl
          · exact .inr rfl
        have o1 := Only.setCell w2 (a := ⟨g, y, none⟩) (.int .i64 xs[j]) (F := Of b (some g)) (F _ (.inr rfl))
        have o2 := Only.setCell (w2.setCell ⟨g, y, none⟩ (.int .i64 xs[j])) (a := ⟨b, 3, none⟩) (.int .i64 ((q : Int) + 1)) (F := Of b (some g)) (F _ (.inl rfl))
        have o3 := (o1.trans o2 (fun _ h => h) (fun _ _ h => h)).trans (Only.drewN _ 1 (Of b (some g))) (fun _ h => h) (fun _ _ h => h)
        have hNw : Newer w og (some g) := HN1.out.trans HN2.out HO1.out.size
        have hOw : Only w w2 (Of b og) := HO1.out.step HN1.out HO2.out
        exact ⟨j + 1, some g, by have := HJ.out; omega, by go_num, hNw, ⟨hs, .inr ⟨g, c, f, _, rfl, hst⟩⟩, hOw.step hNw o3⟩
    · obtain rfl : j = n := by have := HJ.out; omega
      go_wp2
      go_ret
      exact ⟨rfl, og1, HN1.out, HR1.out, HO1.out⟩

end Go.Proofs.Ytlfciaiaamcopaa
