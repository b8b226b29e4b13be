/- Chapter 4: the walk of RingOrder. -/
import Derived.Test.YtlfciaiaamcopaaRgI
namespace Go.Proofs.Ytlfciaiaamcopaa
open Go.RowKit

theorem below_grown {B : Nat} {w0 w w' : World} {base e size n : Nat} {v : Value} {xs : List Value} (hb : Below B w0 w) (hown : w.ownsRow base e size v n xs) (hg : w.grownBy w' v.ownBlock) (hB : B ≤ w.heap.size) (hbase : B ≤ base) : Below B w0 w' :=
  hb.grown hg hB (fun k hk => by have := (hown.lt k hk).1; omega)

/-- The end: the ring empty, what was pushed is what was popped. -/
def OrdOk (w : World) (e : Ending) (w' : World) : Prop := e = .returned (.bool true) ∧ Below w.heap.size w w'

set_option maxHeartbeats 2000000 in
theorem ringOrder_some (sn en bs os n cap : Nat) (zs : List Int) (w : World) (hs : sn ≤ 255) (he : en ≤ 255) (hn : n = zs.length) (hl : n ≤ 300) (hbs : bs < w.heap.size)
    (hc : ∀ j (h : j < zs.length), w.cell? ⟨bs, os + j, none⟩ = some (.int .i64 zs[j])) :
    Calls Try.prog 3 #[.int .u8 sn, .slice (some ⟨bs, os, none⟩) n cap, .int .u8 en] w (OrdOk w) := by
  have HC := Lib.hid hc
  have HN := Lib.hid hn
  clear hc hn
  go_enter Try.func3, Try.ntmps3
  go_wp2_with fail
  refine (new_ok ((sn : Int) + 1) w (by omega) (by omega)).mono ?_
  rintro e w1 ⟨rfl, hw1⟩
  have hR1 : RingI w1 w.heap.size none (sn + 1) [] := by rw [hw1]; have := ring_new w (sn + 1) (by omega) (by omega); simpa using this
  have hB1 : Below w.heap.size w w1 := by rw [hw1]; exact (Below.refl _ _).alloc (Nat.le_refl _) _
  have HO1 : Hid (Ord w.heap.size w.heap.size (sn + 1) w1 none [] [] [] (.slice none 0 0) (.slice none 0 0)) :=
    ⟨hR1, ⟨Nat.le_refl _, fun g h => by cases h⟩, World.ownsRow_nil _ _ _ _, World.ownsRow_nil _ _ _ _, ⟨fun k h => by cases h⟩, ⟨fun k h => by cases h⟩, (fun k h => by cases h), hB1.size⟩
  have HB1 := Lib.hid hB1
  clear hw1 hR1 hB1
  go_wp2_with fail
  go_loopg [8, 9, 28] n (fun k vp vq i wr => ∃ (j : Nat) (og : Option Nat) (L P Q : List Int), j + k = n ∧ i = .int .i64 j ∧ Hid (Ord w.heap.size w.heap.size (sn + 1) wr og L P Q vp vq) ∧ Hid (P = Q ++ L) ∧ L.length + Q.length ≤ j ∧ Hid (Below w.heap.size w wr))
  case atStart => exact ⟨0, none, [], [], [], by omega, rfl, HO1, rfl, by simp, HB1⟩
  case round =>
    obtain ⟨j, og, L, P, Q, hjn, rfl, HO, HPQ, hlen, HB⟩ := hrel
    have HJ := Lib.hid hjn
    clear hjn HO1 HB1
    by_cases hlt : j < n
    · have hjx : j < zs.length := by have := HN.out; omega
      have hcx : wr.cell? ⟨bs, os + j, none⟩ = some (.int .i64 zs[j]) := (HB.out.cell (p := ⟨bs, os + j, none⟩) hbs).trans (HC.out j hjx)
      have hB2 : w.heap.size ≤ wr.heap.size := HB.out.size
      have HI := Lib.hid (new_ints wr [zs[j]])
      have hfr := HO.out.fr
      have HOa := Lib.hid (HO.out.alloc (.cells #[.int .i64 zs[j]] 3))
      have HBa := Lib.hid (HB.out.alloc hB2 (.cells #[.int .i64 zs[j]] 3))
      have HNo := Lib.hid (of_new HO.out.ring (Nat.le_refl wr.heap.size))
      have hle := HO.out.ring.le
      have hpl : P.length ≤ j := by rw [HPQ.out]; simp; omega
      -- the push, and what is pushed
      by_cases hfull : L.length = sn + 1
      case' neg =>
        have HP : Hid (Calls Try.prog 10 #[.pointer (some ⟨w.heap.size, 0, none⟩), .slice (some ⟨wr.heap.size, 0, none⟩) 1 1] (wr.alloc (.cells #[.int .i64 zs[j]] 3)) (Pushed (wr.alloc (.cells #[.int .i64 zs[j]] 3)) w.heap.size og (sn + 1) L [zs[j]] 1)) := by
          have := push_any (m := 1) (cs := 1) HOa.out.ring HI.out (by omega) (by omega) (fun ad h => by cases h; exact HNo.out) (fun ad h => by cases h; simp)
          rwa [show min 1 (sn + 1 - L.length) = 1 from by omega] at this
        go_wp2_with fail
        refine HP.out.mono ?_
        rintro e w2 ⟨rfl, og2, hN2, hR2, hO2⟩
        have HO2 := Lib.hid (HOa.out.call hR2 hN2 hO2)
        have HB2 := Lib.hid (HBa.out.trans (hfr.below hO2 (by simp; omega)))
        have hB3 : w.heap.size ≤ w2.heap.size := HB2.out.size
        clear hN2 hR2 hO2 HOa HBa HI HNo HP
        go_wp2_with (first | (at_builtin; go_must (refine wpList_append1_at (w := w2) 22 HO2.out.op (.int .i64 0) Try.underlying22 Try.infoI rfl (by omega) (by omega) hB3 rfl rfl rfl rfl rfl ?_)) | fail)
        intro vp' w3 hown3 hg3 hat3
        have HO3 := Lib.hid (HO2.out.pushed hown3 hg3 hat3)
        have HBx := Lib.hid (below_grown HB2.out HO2.out.op hg3 hB3 (Nat.le_refl _))
        obtain ⟨Lx, hLx⟩ : ∃ Lx, Lx = L ++ [zs[j]] := ⟨_, rfl⟩
        obtain ⟨Px, hPx⟩ : ∃ Px, Px = P ++ [zs[j]] := ⟨_, rfl⟩
        have HOx := HO3
        rw [show L ++ List.take 1 [zs[j]] = L ++ [zs[j]] from rfl, ← hLx, ← hPx] at HOx
        have HPQx : Hid (Px = Q ++ Lx) := by rw [Hid, hPx, hLx, HPQ.out, List.append_assoc]
        have hlenx : Lx.length + Q.length ≤ j + 1 := by rw [hLx, List.length_append]; simp; omega
        clear hown3 hg3 hat3 HO3 hLx hPx HO2 HB2 hB3
      case' pos =>
        have HP : Hid (Calls Try.prog 10 #[.pointer (some ⟨w.heap.size, 0, none⟩), .slice (some ⟨wr.heap.size, 0, none⟩) 1 1] (wr.alloc (.cells #[.int .i64 zs[j]] 3)) (Pushed (wr.alloc (.cells #[.int .i64 zs[j]] 3)) w.heap.size og (sn + 1) L [zs[j]] 0)) := by
          have := push_any (m := 1) (cs := 1) HOa.out.ring HI.out (by omega) (by omega) (fun ad h => by cases h; exact HNo.out) (fun ad h => by cases h; simp)
          rwa [show min 1 (sn + 1 - L.length) = 0 from by omega] at this
        go_wp2_with fail
        refine HP.out.mono ?_
        rintro e w2 ⟨rfl, og2, hN2, hR2, hO2⟩
        have HOx := Lib.hid (HOa.out.call hR2 hN2 hO2)
        rw [show L ++ List.take 0 [zs[j]] = L from by simp] at HOx
        have HBx := Lib.hid (HBa.out.trans (hfr.below hO2 (by simp; omega)))
        obtain ⟨Lx, hLx⟩ : ∃ Lx, Lx = L := ⟨_, rfl⟩
        obtain ⟨Px, hPx⟩ : ∃ Px, Px = P := ⟨_, rfl⟩
        rw [← hLx, ← hPx] at HOx
        have HPQx : Hid (Px = Q ++ Lx) := by rw [Hid, hPx, hLx, HPQ.out]
        have hlenx : Lx.length + Q.length ≤ j + 1 := by rw [hLx]; omega
        clear hN2 hR2 hO2 HOa HBa HI HNo HP hLx hPx
      all_goals
        clear hfull hpl hle hfr hB2 HO HPQ HB hlen hcx
        by_cases hdiv : (((j : Int) % ((en : Int) % 5 + 1)) == 0) = true
        · rcases Lx with _ | ⟨y, L2⟩
          · go_wp2_with fail
            refine (pop_none HOx.out.ring).mono ?_
            rintro e w4 ⟨rfl, rfl⟩
            go_wp2_with fail
            go_roundg (n - (j + 1))
            case measure => have := HJ.out; omega
            case rel => exact ⟨j + 1, _, [], Px, Q, by have := HJ.out; omega, by go_num, HOx, HPQx, hlenx, HBx⟩
          · go_wp2_with fail
            refine (pop_some HOx.out.ring).mono ?_
            rintro e w4 ⟨rfl, hR4, hO4⟩
            have HO4 := Lib.hid (HOx.out.call hR4 (Newer.refl _ _) hO4)
            have HB4 := Lib.hid (HBx.out.trans (HOx.out.fr.below hO4 HOx.out.hB))
            have hB4 : w.heap.size ≤ w4.heap.size := HB4.out.size
            have hlen4 : L2.length + 1 + Q.length ≤ j + 1 := by simpa using hlenx
            clear hR4 hO4
            go_wp2_with (first | (at_builtin; go_must (refine wpList_append1_at (w := w4) 22 HO4.out.oq (.int .i64 0) Try.underlying22 Try.infoI rfl (by omega) (by omega) hB4 rfl rfl rfl rfl rfl ?_)) | fail)
            intro vq' w5 hown5 hg5 hat5
            have HO5 := Lib.hid (HO4.out.popped hown5 hg5 hat5)
            have HB5 := Lib.hid (below_grown HB4.out HO4.out.oq hg5 hB4 (Nat.le_refl _))
            clear hown5 hg5 hat5 HO4 HB4
            go_wp2_with fail
            go_roundg (n - (j + 1))
            case measure => have := HJ.out; omega
            case rel => exact ⟨j + 1, _, L2, Px, Q ++ [y], by have := HJ.out; omega, by go_num, HO5, by rw [Hid, HPQx.out]; simp, by simp; omega, HB5⟩
        · have hdiv' : (((j : Int) % ((en : Int) % 5 + 1)) == 0) = false := by simpa using hdiv
          clear hdiv
          go_wp2_with fail
          go_roundg (n - (j + 1))
          case measure => have := HJ.out; omega
          case rel => exact ⟨j + 1, _, Lx, Px, Q, by have := HJ.out; omega, by go_num, HOx, HPQx, hlenx, HBx⟩
    · obtain rfl : j = n := by have := HJ.out; omega
      clear HJ hlt
      have hpj : P.length ≤ j := by rw [HPQ.out]; simp; omega
      go_wp2_with fail
      go_loopg [9, 62] j (fun k vq i wr => ∃ (m : Nat) (og : Option Nat) (L Q : List Int), m + k = j ∧ i = .int .i64 m ∧ Hid (Ord w.heap.size w.heap.size (sn + 1) wr og L P Q u8 vq) ∧ Hid (P = Q ++ L) ∧ L.length + m ≤ j ∧ Q.length ≤ j ∧ Hid (Below w.heap.size w wr))
      case atStart => exact ⟨0, og, L, Q, by omega, rfl, HO, HPQ, by omega, by omega, HB⟩
      case round =>
        clear HO HPQ HB hlen
        obtain ⟨m, og, L, Q, hjn, rfl, HO, HPQ, hlen, hql, HB⟩ := hrel
        have HJ := Lib.hid hjn
        clear hjn
        by_cases hlt : m < j
        · rcases L with _ | ⟨y, L2⟩
          · go_wp2_with fail
            refine (pop_none HO.out.ring).mono ?_
            rintro e w4 ⟨rfl, rfl⟩
            go_wp2_with fail
            go_roundg (j - (m + 1))
            case measure => have := HJ.out; omega
            case rel => exact ⟨m + 1, _, [], Q, by have := HJ.out; omega, by go_num, HO, HPQ, by simp; omega, hql, HB⟩
          · have hlen4 : L2.length + 1 + m ≤ j := by simpa using hlen
            have hq4 : Q.length ≤ 300 := by omega
            go_wp2_with fail
            refine (pop_some HO.out.ring).mono ?_
            rintro e w4 ⟨rfl, hR4, hO4⟩
            have HO4 := Lib.hid (HO.out.call hR4 (Newer.refl _ _) hO4)
            have HB4 := Lib.hid (HB.out.trans (HO.out.fr.below hO4 HO.out.hB))
            have hB4 : w.heap.size ≤ w4.heap.size := HB4.out.size
            clear hR4 hO4
            go_wp2_with (first | (at_builtin; go_must (refine wpList_append1_at (w := w4) 22 HO4.out.oq (.int .i64 0) Try.underlying22 Try.infoI rfl (by omega) (by omega) hB4 rfl rfl rfl rfl rfl ?_)) | fail)
            intro vq' w5 hown5 hg5 hat5
            have HO5 := Lib.hid (HO4.out.popped hown5 hg5 hat5)
            have HB5 := Lib.hid (below_grown HB4.out HO4.out.oq hg5 hB4 (Nat.le_refl _))
            clear hown5 hg5 hat5 HO4 HB4
            go_wp2_with fail
            go_roundg (j - (m + 1))
            case measure => have := HJ.out; omega
            case rel => exact ⟨m + 1, _, L2, Q ++ [y], by have := HJ.out; omega, by go_num, HO5, by rw [Hid, HPQ.out]; simp, by omega, (by have h1 : P.length = Q.length + (L2.length + 1) := (by rw [HPQ.out]; simp); simp; omega), HB5⟩
        · obtain rfl : m = j := by have := HJ.out; omega
          have hL : L = [] := List.eq_nil_of_length_eq_zero (by omega)
          subst hL
          have hP : P = Q := by rw [HPQ.out]; simp
          subst hP
          obtain ⟨a1, c1, hv1⟩ := own_slice HO.out.op
          obtain ⟨a2, c2, hv2⟩ := own_slice HO.out.oq
          subst hv1
          subst hv2
          go_wp2_with fail
          refine (alive_any _).mono ?_
          rintro e w6 ⟨rfl, hb6⟩
          have HO6 := Lib.hid (HO.out.keep (fun k hk => hb6.block k hk) hb6.size)
          have HB6 := Lib.hid (HB.out.trans (hb6.mono HO.out.hB))
          clear hb6
          go_wp2_with fail
          refine (eqi_any (ints_of_own HO6.out.op) (ints_of_own HO6.out.oq) (by omega)).mono ?_
          rintro e w7 ⟨rfl, m7, rfl⟩
          go_wp2_with fail
          refine (len_any (HO6.out.drewN m7).ring).mono ?_
          rintro e w8 ⟨rfl, rfl⟩
          go_wp2_with fail
          go_ret
          exact ⟨rfl, HB6.out.trans (Only.below (Only.drewN w6 m7 (fun _ => False)) HB6.out.size (fun _ _ h => h))⟩

set_option maxHeartbeats 1000000 in
theorem ringOrder_none (sn en cap : Nat) (A : Option Addr) (w : World) (hs : sn ≤ 255) :
    Calls Try.prog 3 #[.int .u8 sn, .slice A 0 cap, .int .u8 en] w (OrdOk w) := by
  go_enter Try.func3, Try.ntmps3
  go_wp2_with fail
  refine (new_ok ((sn : Int) + 1) w (by omega) (by omega)).mono ?_
  rintro e w1 ⟨rfl, hw1⟩
  have hR1 : RingI w1 w.heap.size none (sn + 1) [] := by rw [hw1]; have := ring_new w (sn + 1) (by omega) (by omega); simpa using this
  have hB1 : Below w.heap.size w w1 := by rw [hw1]; exact (Below.refl _ _).alloc (Nat.le_refl _) _
  have HR1 := Lib.hid hR1
  have HB1 := Lib.hid hB1
  clear hw1 hR1 hB1
  go_wp2_with fail
  refine wp_loop_rounds 1 ?_
  rw [rounds_succ]
  go_wp2_with fail
  refine wp_loop_rounds 1 ?_
  rw [rounds_succ]
  go_wp2_with fail
  refine (alive_any _).mono ?_
  rintro e w6 ⟨rfl, hb6⟩
  have HR6 := Lib.hid (HR1.out.keep (hb6.block _ HR1.out.lt) (fun g h => by cases h))
  have HB6 := Lib.hid (HB1.out.trans (hb6.mono HB1.out.size))
  clear hb6
  go_wp2_with fail
  refine (eqi_none _ _ _ _ _).mono ?_
  rintro e w7 ⟨rfl, m7, rfl⟩
  go_wp2_with fail
  refine (len_any (HR6.out.keep (w' := w6.drewN m7) rfl (fun _ _ => rfl))).mono ?_
  rintro e w8 ⟨rfl, rfl⟩
  go_wp2_with fail
  go_ret
  exact ⟨rfl, HB6.out.trans (Only.below (Only.drewN w6 m7 (fun _ => False)) HB6.out.size (fun _ _ h => h))⟩

set_option maxHeartbeats 400000 in
theorem ringOrder_big (a b : Int) (n cap : Nat) (A : Option Addr) (w : World) (hl : 300 < n) (hm : n ≤ 9223372036854775807) :
    Calls Try.prog 3 #[.int .u8 a, .slice A n cap, .int .u8 b] w (OrdOk w) := by
  go_enter Try.func3, Try.ntmps3
  go_wp2_with fail
  refine (alive_any _).mono ?_
  rintro e w' ⟨rfl, hb⟩
  go_wp2
  go_ret
  exact ⟨rfl, hb⟩

theorem IsRow.bound {k : IntKind} {w : World} {a : Option Addr} {len cap : Nat} {zs : List Int} (h : IsRow k w a len cap zs) : len ≤ cap ∧ cap ≤ 9223372036854775807 := by
  rcases h with ⟨_, h, h', _⟩ | ⟨x, _, h2, h3, _⟩
  · omega
  · unfold maxLen at h3; omega

theorem ringOrder_walk (a0 : Int) (a1 : Option Addr) (len1 cap1 : Nat) (z1 : List Int) (a2 : Int) (w : World) (w0 : (Lit.int .u8 a0).wf = true) (w1 : IsRow .i64 w a1 len1 cap1 z1) (w2 : (Lit.int .u8 a2).wf = true) :
    Calls Try.prog 3 #[.int .u8 a0, .slice a1 len1 cap1, .int .u8 a2] w fun e w' => e = .returned (.bool true) ∧ Below w.heap.size w w' := by
  obtain ⟨h0, h1⟩ := bounds_u8 w0
  obtain ⟨g0, g1⟩ := bounds_u8 w2
  obtain ⟨s, rfl⟩ := Int.eq_ofNat_of_zero_le h0
  obtain ⟨r, rfl⟩ := Int.eq_ofNat_of_zero_le g0
  obtain ⟨hi, -⟩ := w1.ints
  have hcap := w1.bound
  by_cases hl : len1 ≤ 300
  · obtain ⟨hn, hz0 | ⟨b, o, rfl, hcell⟩⟩ := hi
    · rw [hz0] at hn
      obtain rfl : len1 = 0 := hn
      exact ringOrder_none s r cap1 a1 w (by omega)
    · by_cases h0' : len1 = 0
      · subst h0'
        exact ringOrder_none s r cap1 _ w (by omega)
      · exact ringOrder_some s r b o len1 cap1 _ w (by omega) (by omega) hn hl (by
          have := hcell 0 (by omega)
          exact World.block_lt_of_cell? w _ this) hcell
  · exact ringOrder_big _ _ len1 cap1 a1 w (by omega) (by omega)

end Go.Proofs.Ytlfciaiaamcopaa
