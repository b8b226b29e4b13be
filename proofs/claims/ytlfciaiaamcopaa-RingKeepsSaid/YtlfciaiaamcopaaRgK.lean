/- Chapter 4: the walk of RingKeeps. -/
import Derived.Test.YtlfciaiaamcopaaRgJ
namespace Go.Proofs.Ytlfciaiaamcopaa
open Go.RowKit

/-- Block g holds n integers, whatever they are. -/
def Scr (w : World) (g n : Nat) : Prop :=
  ∃ arr : Array Value, w.heap[g]? = some (.cells arr 3 (0, 0)) ∧ ∀ j, j < n → ∃ y : Int, arr[j]? = some (.int .i64 y)

theorem Scr.of_own {w : World} {base g n cap : Nat} {zs : List Int} (h : w.ownsRow base 3 1 (.slice (some ⟨g, 0, none⟩) n cap) n (zs.map (Value.int .i64))) : Scr w g n := by
  rcases h.2 with ⟨h1, _⟩ | ⟨g', cap', cur, hv, _, hh, _, _, _, ht⟩
  · cases h1
  · injection hv with h1
    injection h1 with h1
    injection h1 with h1
    subst h1
    refine ⟨cur, hh, fun j hj => ?_⟩
    have hl : n = zs.length := by have := h.1; simp at this; exact this.symm
    have : (cur.toList.take (n * 1))[j]? = (zs.map (Value.int .i64))[j]? := by rw [ht]
    rw [List.getElem?_take, if_pos (by omega)] at this
    refine ⟨zs[j]'(by omega), ?_⟩
    have h2 : (zs.map (Value.int .i64))[j]? = some (.int .i64 (zs[j]'(by omega))) := by simp [show j < zs.length by omega]
    rw [h2] at this
    simpa using this

theorem Scr.cell {w : World} {g n j : Nat} (h : Scr w g n) (hj : j < n) : ∃ y : Int, w.cell? ⟨g, j, none⟩ = some (.int .i64 y) ∧ w.frozen? ⟨g, j, none⟩ = false := by
  obtain ⟨arr, h1, h2⟩ := h
  obtain ⟨y, hy⟩ := h2 j hj
  exact ⟨y, by rw [blk_cell h1]; exact hy, blk_frozen h1 j⟩

theorem Scr.set_ {w : World} {g n j : Nat} (h : Scr w g n) (y : Int) : Scr (w.setCell ⟨g, j, none⟩ (.int .i64 y)) g n := by
  obtain ⟨arr, h1, h2⟩ := h
  refine ⟨_, blk_set h1 j _, fun i hi => ?_⟩
  rw [Array.getElem?_setIfInBounds]
  obtain ⟨z, hz⟩ := h2 i hi
  by_cases e : j = i
  · subst e
    rw [if_pos rfl, if_pos (Array.getElem?_eq_some_iff.1 hz).1]; exact ⟨y, rfl⟩
  · rw [if_neg e]; exact ⟨z, hz⟩

set_option maxHeartbeats 2000000 in
theorem ringKeeps_some (bs os n cap : Nat) (zs : List Int) (w : World) (hn : n = zs.length) (hn0 : 0 < n) (hl : n ≤ 300) (hbs : bs < w.heap.size)
    (hc : ∀ j (h : j < zs.length), w.cell? ⟨bs, os + j, none⟩ = some (.int .i64 zs[j])) :
    Calls Try.prog 5 #[.slice (some ⟨bs, os, none⟩) n cap] w (OrdOk w) := by
  have HC := Lib.hid hc
  have HN := Lib.hid hn
  clear hc hn
  go_enter Try.func5, Try.ntmps5
  go_wp2_with fail
  refine (new_ok ((n : Int) + 1) w (by omega) (by omega)).mono ?_
  rintro e w1 ⟨rfl, hw1⟩
  have hR1 : RingI w1 w.heap.size none (n + 1) [] := by rw [hw1]; have := ring_new w (n + 1) (by omega) (by omega); simpa using this
  have hB1 : Below w.heap.size w w1 := by rw [hw1]; exact (Below.refl _ _).alloc (Nat.le_refl _) _
  have hown0 := World.ownsRow_made (base := w1.heap.size) (e := 3) (size := 1) w1 #[] 0 (Nat.le_refl _) (by unfold maxLen; omega) rfl
  have hsz1 : w.heap.size < w1.heap.size := hR1.lt
  have hr0 : Ints (w1.alloc (.cells #[] 3)) .i64 (some ⟨bs, os, none⟩) n zs :=
    ⟨HN.out, .inr ⟨bs, os, rfl, fun j hj => ((hB1.alloc hB1.size _).cell (p := ⟨bs, os + j, none⟩) hbs).trans (HC.out j hj)⟩⟩
  have HR1 := Lib.hid hR1
  have HB1 := Lib.hid hB1
  have HO0 := Lib.hid hown0
  have HI0 := Lib.hid hr0
  clear hw1 hR1 hB1 hown0 hr0
  go_wp2_with (first
    | (at_builtin; go_must (refine wpList_appendI (s := .tmp 18) (x := .tmp 19) 22 HO0.out HI0.out (.int .i64 0) Try.underlying22 Try.infoI rfl (by omega) (by omega) (by simp) rfl rfl rfl rfl ?_))
    | fail)
  intro v2 w2 hown2 hg2
  try simp only [Nat.zero_add, List.nil_append] at hown2
  obtain ⟨g, cp, hv2, hgb, hgl, hgc⟩ := own_form hown2 (by omega)
  subst hv2
  have hb2 : Below w1.heap.size w1 w2 := ((Below.refl _ _).alloc (Nat.le_refl _) (.cells #[] 3)).grown hg2 (by simp) (by intro k hk; simp [Value.ownBlock] at hk; omega)
  have HR2 := Lib.hid (HR1.out.keep (hb2.block _ HR1.out.lt) (fun g h => by cases h))
  have HB2 := Lib.hid (HB1.out.trans (hb2.mono (by omega)))
  have HI2 := Lib.hid (ints_of_own hown2)
  have HS2 := Lib.hid (Scr.of_own hown2)
  clear hown2 hg2 hb2 HO0 HI0 HR1 HB1
  have HP : Hid (Calls Try.prog 10 #[.pointer (some ⟨w.heap.size, 0, none⟩), .slice (some ⟨g, 0, none⟩) n cp] w2 (Pushed w2 w.heap.size none (n + 1) [] zs n)) := by
    have := push_any (m := n) (cs := cp) HR2.out HI2.out (by omega) (by omega) (fun ad h => by cases h; rintro (h | h); (simp at h; omega); cases h) (fun ad h => by cases h; exact hgl)
    rwa [show min n (n + 1 - ([] : List Int).length) = n from by simp] at this
  go_wp2_with fail
  refine HP.out.mono ?_
  rintro e w3 ⟨rfl, og, hN3, hR3, hO3⟩
  have hF3 : From w.heap.size w.heap.size og := (show From w.heap.size w.heap.size none from ⟨Nat.le_refl _, fun g h => by cases h⟩).newer hN3 HB2.out.size
  have hng : ¬ Of w.heap.size none g := by rintro (h | h); (omega); cases h
  have hng3 : ¬ Of w.heap.size og g := fun h => hng (Of.back hN3 hgl h)
  rw [show [] ++ zs.take n = zs from by rw [HN.out]; simp] at hR3
  have HR3 := Lib.hid hR3
  have HB3 := Lib.hid (HB2.out.trans ((show From w.heap.size w.heap.size none from ⟨Nat.le_refl _, fun g h => by cases h⟩).below hO3 HB2.out.size))
  have HS3 : Hid (Scr w3 g n) := by
    obtain ⟨arr, h1, h2⟩ := HS2.out
    exact ⟨arr, (hO3.block g hgl hng).trans h1, h2⟩
  clear hR3 hO3 hN3 HP HI2 HS2 HR2 HB2
  go_wp2_with fail
  go_loopg [26] n (fun k i wr => ∃ j : Nat, j + k = n ∧ i = .int .i64 j ∧ Hid (Scr wr g n) ∧ Hid (RingI wr w.heap.size og (n + 1) zs) ∧ Hid (Below w.heap.size w wr))
  case atStart => exact ⟨0, by omega, rfl, HS3, HR3, HB3⟩
  case round =>
    obtain ⟨j, hjn, rfl, HS, HR, HB⟩ := hrel
    have HJ := Lib.hid hjn
    clear hjn HS3 HR3 HB3
    by_cases hlt : j < n
    · obtain ⟨y, hcy, hfy⟩ := HS.out.cell hlt
      have HS' := Lib.hid (HS.out.set_ (j := j) (wrap64 (y + 1)))
      have hO := Only.setCell wr (a := ⟨g, j, none⟩) (.int .i64 (wrap64 (y + 1))) (F := fun k => k = g) rfl
      have HR' := Lib.hid (HR.out.only hO (fun h => hng3 (.inl h.symm)) (fun g' e h => hng3 (.inr (by rw [e, h]))))
      have HB' := Lib.hid (HB.out.trans (hO.below HB.out.size (fun k hk h => by omega)))
      clear hO
      go_wp2
      go_roundg (n - (j + 1))
      case measure => have := HJ.out; omega
      case rel => exact ⟨j + 1, by omega, by go_num, HS', HR', HB'⟩
    · obtain rfl : j = n := by have := HJ.out; omega
      clear HJ HS
      go_wp2_with fail
      refine (all_any HR.out).mono ?_
      rintro e w4 ⟨v4, rfl, hown4, hb4⟩
      obtain ⟨g4, cp4, hv4, hgb4, hgl4, hgc4⟩ := own_form hown4 (by have := HN.out; omega)
      rw [← HN.out] at hown4 hv4
      subst hv4
      have HS4 := Lib.hid (Scr.of_own hown4)
      have HR4 := Lib.hid (HR.out.keep (hb4.block _ HR.out.lt) (fun g e => hb4.block g (HR.out.glt g e)))
      have HB4 := Lib.hid (HB.out.trans (hb4.mono HB.out.size))
      have hng4 : ¬ Of w.heap.size og g4 := of_new HR.out hgb4
      have hwr : w.heap.size ≤ wr.heap.size := HB.out.size
      clear hown4 hb4 HR HB
      go_wp2_with fail
      go_loopg [40] j (fun k i wr => ∃ m : Nat, m + k = j ∧ i = .int .i64 m ∧ Hid (Scr wr g4 j) ∧ Hid (RingI wr w.heap.size og (j + 1) zs) ∧ Hid (Below w.heap.size w wr))
      case atStart => exact ⟨0, by omega, rfl, HS4, HR4, HB4⟩
      case round =>
        obtain ⟨m, hjn, rfl, HS, HR, HB⟩ := hrel
        have HJ := Lib.hid hjn
        clear hjn HS4 HR4 HB4
        by_cases hlt : m < j
        · obtain ⟨y, hcy, hfy⟩ := HS.out.cell hlt
          have HS' := Lib.hid (HS.out.set_ (j := m) (wrap64 (y - 1)))
          go_wp2
          go_roundg (j - (m + 1))
          case measure => have := HJ.out; omega
          case rel =>
            have hO := Only.setCell wr (a := ⟨g4, m, none⟩) (.int .i64 (wrap64 (y - 1))) (F := fun k => k = g4) rfl
            have HR' := HR.out.only hO (fun h => hng4 (.inl h.symm)) (fun g' e h => hng4 (.inr (by rw [e, h])))
            have HB' := HB.out.trans (hO.below HB.out.size (fun k hk h => by omega))
            exact ⟨m + 1, by omega, by go_num, HS', HR', HB'⟩
        · obtain rfl : m = j := by have := HJ.out; omega
          go_wp2_with fail
          refine (alive_any _).mono ?_
          rintro e w6 ⟨rfl, hb6⟩
          have HR6 := Lib.hid (HR.out.keep (hb6.block _ HR.out.lt) (fun g e => hb6.block g (HR.out.glt g e)))
          have HB6 := Lib.hid (HB.out.trans (hb6.mono HB.out.size))
          clear hb6
          go_wp2_with fail
          refine (all_any HR6.out).mono ?_
          rintro e w7 ⟨v7, rfl, hown7, hb7⟩
          obtain ⟨a7, c7, hv7⟩ := own_slice hown7
          subst hv7
          have HB7 := Lib.hid (HB6.out.trans (hb7.mono HB6.out.size))
          have hI7 := ints_of_own hown7
          have hL7 : Ints w7 .i64 (some ⟨bs, os, none⟩) m zs := ⟨HN.out, .inr ⟨bs, os, rfl, fun j hj => (HB7.out.cell (p := ⟨bs, os + j, none⟩) hbs).trans (HC.out j hj)⟩⟩
          have HE := Lib.hid (eqi_any (c1 := c7) (c2 := cap) hI7 hL7 (by have := HN.out; omega))
          clear hb7 hown7 hI7 hL7
          go_wp2_with fail
          refine HE.out.mono ?_
          rintro e w8 ⟨rfl, m8, rfl⟩
          go_wp2_with fail
          go_ret
          exact ⟨rfl, HB7.out.trans (Only.below (Only.drewN w7 m8 (fun _ => False)) HB7.out.size (fun _ _ h => h))⟩

set_option maxHeartbeats 1000000 in
theorem ringKeeps_none (A : Option Addr) (cap : Nat) (w : World) :
    Calls Try.prog 5 #[.slice A 0 cap] w (OrdOk w) := by
  go_enter Try.func5, Try.ntmps5
  go_wp2_with fail
  refine (new_ok 1 w (by omega) (by omega)).mono ?_
  rintro e w1 ⟨rfl, hw1⟩
  have hR1 : RingI w1 w.heap.size none 1 [] := by rw [hw1]; have := ring_new w 1 (by omega) (by omega); simpa using this
  have hB1 : Below w.heap.size w w1 := by rw [hw1]; exact (Below.refl _ _).alloc (Nat.le_refl _) _
  have hown0 := World.ownsRow_made (base := w1.heap.size) (e := 3) (size := 1) w1 #[] 0 (Nat.le_refl _) (by unfold maxLen; omega) rfl
  have hsz1 : w.heap.size < w1.heap.size := hR1.lt
  have hr0 : ∀ A : Option Addr, Ints (w1.alloc (.cells #[] 3)) .i64 A 0 [] := fun _ => ⟨rfl, .inl rfl⟩
  have HR1 := Lib.hid hR1
  have HB1 := Lib.hid hB1
  have HO0 := Lib.hid hown0
  have HI0 := Lib.hid hr0
  clear hw1 hR1 hB1 hown0 hr0
  go_wp2_with (first
    | (at_builtin; go_must (refine wpList_appendI (s := .tmp 18) (x := .tmp 19) 22 HO0.out (HI0.out _) (.int .i64 0) Try.underlying22 Try.infoI rfl (by omega) (by omega) (by simp) rfl rfl rfl rfl ?_))
    | fail)
  intro v2 w2 hown2 hg2
  have hown2 : w2.ownsRow w1.heap.size 3 1 v2 0 [] := by simpa using hown2
  obtain ⟨a2, c2, hv2⟩ := own_slice hown2
  subst hv2
  have hb2 : Below w1.heap.size w1 w2 := ((Below.refl _ _).alloc (Nat.le_refl _) (.cells #[] 3)).grown hg2 (by simp) (by intro k hk; simp [Value.ownBlock] at hk; omega)
  have HR2 := Lib.hid (HR1.out.keep (hb2.block _ HR1.out.lt) (fun g h => by cases h))
  have HB2 := Lib.hid (HB1.out.trans (hb2.mono (by omega)))
  clear hown2 hg2 hb2 HO0 HI0 HR1 HB1
  go_wp2_with fail
  refine (push_none HR2.out).mono ?_
  rintro e w3 ⟨rfl, og, hN3, hR3, hO3⟩
  have HR3 := Lib.hid hR3
  have HB3 := Lib.hid (HB2.out.trans ((show From w.heap.size w.heap.size none from ⟨Nat.le_refl _, fun g h => by cases h⟩).below hO3 HB2.out.size))
  clear hR3 hO3 hN3 HR2 HB2
  go_wp2_with fail
  refine wp_loop_rounds 1 ?_
  rw [rounds_succ]
  go_wp2_with fail
  refine (all_any HR3.out).mono ?_
  rintro e w4 ⟨v4, rfl, hown4, hb4⟩
  obtain ⟨a4, cp4, hv4⟩ := own_slice hown4
  simp only [List.take_nil, List.append_nil, List.length_nil] at hv4
  subst hv4
  have HR4 := Lib.hid (HR3.out.keep (hb4.block _ HR3.out.lt) (fun g e => hb4.block g (HR3.out.glt g e)))
  have HB4 := Lib.hid (HB3.out.trans (hb4.mono HB3.out.size))
  clear hown4 hb4 HR3 HB3
  go_wp2_with fail
  refine wp_loop_rounds 1 ?_
  rw [rounds_succ]
  go_wp2_with fail
  refine (alive_any _).mono ?_
  rintro e w6 ⟨rfl, hb6⟩
  have HR6 := Lib.hid (HR4.out.keep (hb6.block _ HR4.out.lt) (fun g e => hb6.block g (HR4.out.glt g e)))
  have HB6 := Lib.hid (HB4.out.trans (hb6.mono HB4.out.size))
  clear hb6 HR4 HB4
  go_wp2_with fail
  refine (all_any HR6.out).mono ?_
  rintro e w7 ⟨v7, rfl, hown7, hb7⟩
  obtain ⟨a7, c7, hv7⟩ := own_slice hown7
  simp only [List.take_nil, List.append_nil, List.length_nil] at hv7
  subst hv7
  have HB7 := Lib.hid (HB6.out.trans (hb7.mono HB6.out.size))
  clear hb7 hown7
  go_wp2_with fail
  refine (eqi_none _ _ _ _ _).mono ?_
  rintro e w8 ⟨rfl, m8, rfl⟩
  go_wp2_with fail
  go_ret
  exact ⟨rfl, HB7.out.trans (Only.below (Only.drewN w7 m8 (fun _ => False)) HB7.out.size (fun _ _ h => h))⟩

set_option maxHeartbeats 400000 in
theorem ringKeeps_big (n cap : Nat) (A : Option Addr) (w : World) (hl : 300 < n) (hm : n ≤ 9223372036854775807) :
    Calls Try.prog 5 #[.slice A n cap] w (OrdOk w) := by
  go_enter Try.func5, Try.ntmps5
  go_wp2_with fail
  refine (alive_any _).mono ?_
  rintro e w' ⟨rfl, hb⟩
  go_wp2
  go_ret
  exact ⟨rfl, hb⟩

theorem ringKeeps_walk (a0 : Option Addr) (len0 cap0 : Nat) (z0 : List Int) (w : World) (w0 : IsRow .i64 w a0 len0 cap0 z0) :
    Calls Try.prog 5 #[.slice a0 len0 cap0] w fun e w' => e = .returned (.bool true) ∧ Below w.heap.size w w' := by
  obtain ⟨hi, -⟩ := w0.ints
  have hcap := w0.bound
  by_cases hl : len0 ≤ 300
  · obtain ⟨hn, hz0 | ⟨b, o, rfl, hcell⟩⟩ := hi
    · rw [hz0] at hn
      obtain rfl : len0 = 0 := hn
      exact ringKeeps_none _ _ w
    · by_cases h0' : len0 = 0
      · subst h0'
        exact ringKeeps_none _ _ w
      · exact ringKeeps_some b o len0 cap0 _ w hn (by omega) hl (by
          have := hcell 0 (by omega)
          exact World.block_lt_of_cell? w _ this) hcell
  · exact ringKeeps_big len0 cap0 a0 w (by omega) (by omega)

end Go.Proofs.Ytlfciaiaamcopaa
