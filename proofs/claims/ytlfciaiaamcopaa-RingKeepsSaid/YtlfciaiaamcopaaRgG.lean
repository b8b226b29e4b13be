/- The ring of integers: Push of whatever slice; Clear; All. -/
import Derived.Test.YtlfciaiaamcopaaRgF
namespace Go.Proofs.Ytlfciaiaamcopaa
open Go.RowKit

set_option maxHeartbeats 400000 in
theorem push_none {w : World} {b size cs : Nat} {A : Option Addr} {og : Option Nat} {L : List Int} (h : RingI w b og size L) :
    Calls Try.prog 10 #[.pointer (some ⟨b, 0, none⟩), .slice A 0 cs] w (Pushed w b og size L [] 0) := by
  have hs := h.1
  have hle := h.le
  obtain ⟨fr, hfr⟩ : ∃ fr, fr = size - L.length := ⟨_, rfl⟩
  have hfree := free_any h
  rw [show ((size : Int) - (L.length : Int)) = (fr : Int) from by omega] at hfree
  have HF := Lib.hid hfree
  have HR := Lib.hid h
  clear hfree h hfr
  go_enter Try.func10, Try.ntmps10
  go_wp2_with fail
  refine HF.out.mono ?_
  rintro e w1 ⟨rfl, m1, rfl⟩
  go_wp2_with fail
  refine wp_loop_rounds 1 ?_
  rw [rounds_succ]
  go_wp2_with fail
  go_ret
  exact ⟨rfl, og, Newer.refl _ _, by simpa using HR.out.keep (w' := w.drewN m1) rfl (fun _ _ => rfl), Only.drewN _ _ _⟩

theorem push_any {w : World} {b size m cs : Nat} {A : Option Addr} {og : Option Nat} {L xs : List Int} (h : RingI w b og size L) (hI : Ints w .i64 A m xs) (hmc : m ≤ cs) (hm2 : m ≤ 1048576)
    (hA : ∀ ad, A = some ad → ¬ Of b og ad.block) (hl : ∀ ad, A = some ad → ad.block < w.heap.size) :
    Calls Try.prog 10 #[.pointer (some ⟨b, 0, none⟩), .slice A m cs] w (Pushed w b og size L xs (min m (size - L.length))) := by
  obtain ⟨hm, rfl | ⟨bs, os, rfl, hc⟩⟩ := hI
  · obtain rfl : m = 0 := hm
    rw [Nat.zero_min]
    exact push_none h
  · exact push_some h hm hmc hm2 rfl rfl hc (hA _ rfl) (hl _ rfl)

set_option maxHeartbeats 400000 in
theorem clear_core {w : World} {b : Nat} {v0 v1 v2 v3 : Value} (h : w.heap[b]? = some (.cells #[v0, v1, v2, v3] 60 (0, 0))) :
    Calls Try.prog 20 #[.pointer (some ⟨b, 0, none⟩)] w fun e w' => e = .returned (.tuple #[]) ∧
      w' = ((w.setCell ⟨b, 0, none⟩ (.slice none 0 0)).setCell ⟨b, 2, none⟩ (.int .i64 0)).setCell ⟨b, 3, none⟩ (.int .i64 0) := by
  have e0 : w.cell? ⟨b, 0, none⟩ = some v0 := by rw [blk_cell h]; rfl
  have e2 : w.cell? ⟨b, 2, none⟩ = some v2 := by rw [blk_cell h]; rfl
  have e3 : w.cell? ⟨b, 3, none⟩ = some v3 := by rw [blk_cell h]; rfl
  have f0 := blk_frozen h 0
  have f2 := blk_frozen h 2
  have f3 := blk_frozen h 3
  clear h
  go_enter Try.func20, Try.ntmps20
  go_wp2
  refine bodyPost_end (results_none rfl _ _ _) rfl ?_
  exact ⟨rfl, rfl⟩

theorem clear_any {w : World} {b size : Nat} {og : Option Nat} {L : List Int} (h : RingI w b og size L) :
    Calls Try.prog 20 #[.pointer (some ⟨b, 0, none⟩)] w fun e w' => e = .returned (.tuple #[]) ∧ RingI w' b none size [] ∧ Only w w' (Of b og) := by
  obtain ⟨v0, v2, v3, hstr⟩ : ∃ v0 v2 v3, w.heap[b]? = some (.cells #[v0, .int .i64 size, v2, v3] 60 (0, 0)) := by
    rcases h.2 with ⟨_, _, hg⟩ | ⟨g, c, f, arr, _, hg⟩
    · exact ⟨_, _, _, hg.str⟩
    · exact ⟨_, _, _, hg.str⟩
  refine (clear_core hstr).mono ?_
  rintro e w' ⟨rfl, rfl⟩
  refine ⟨rfl, ⟨h.1, .inl ⟨rfl, rfl, ⟨?_⟩⟩⟩, ?_⟩
  · refine (blk_set (blk_set (blk_set hstr 0 _) 2 _) 3 _).trans ?_
    simp
  · have o1 := Only.setCell w (a := ⟨b, 0, none⟩) (.slice none 0 0) (F := Of b og) (.inl rfl)
    have o2 := Only.setCell (w.setCell ⟨b, 0, none⟩ (.slice none 0 0)) (a := ⟨b, 2, none⟩) (.int .i64 0) (F := Of b og) (.inl rfl)
    have o3 := Only.setCell ((w.setCell ⟨b, 0, none⟩ (.slice none 0 0)).setCell ⟨b, 2, none⟩ (.int .i64 0)) (a := ⟨b, 3, none⟩) (.int .i64 0) (F := Of b og) (.inl rfl)
    exact (o1.trans o2 (fun _ h => h) (fun _ _ h => h)).trans o3 (fun _ h => h) (fun _ _ h => h)

/-- What All leaves: a row of its own with the elements; nothing that was there has changed. -/
def Listed (w : World) (L : List Int) (e : Ending) (w' : World) : Prop :=
  ∃ v, e = .returned v ∧ w'.ownsRow w.heap.size 3 1 v L.length (L.map (Value.int .i64)) ∧ Below w.heap.size w w'

set_option maxHeartbeats 800000 in
theorem all_any {w : World} {b size : Nat} {og : Option Nat} {L : List Int} (h : RingI w b og size L) :
    Calls Try.prog 23 #[.pointer (some ⟨b, 0, none⟩)] w (Listed w L) := by
  have hs := h.1
  have hle := h.le
  have HL := Lib.hid (len_any h)
  have HR := Lib.hid h
  clear h
  go_enter Try.func23, Try.ntmps23
  go_wp2_with fail
  refine HL.out.mono ?_
  rintro e w1 ⟨rfl, rfl⟩
  go_wp2_with fail
  go_loopg [3, 9] L.length (fun k v i wr => ∃ j : Nat, j + k = L.length ∧ i = .int .i64 j ∧ wr.ownsRow w.heap.size 3 1 v j ((L.take j).map (Value.int .i64)) ∧ Below w.heap.size w wr)
  case atStart => exact ⟨0, by omega, rfl, by simpa using World.ownsRow_nil w _ _ _, Below.refl _ _⟩
  case round =>
    obtain ⟨j, hj, rfl, hown, hb⟩ := hrel
    have HO := Lib.hid hown
    have HB := Lib.hid hb
    have HJ := Lib.hid hj
    clear hown hb hj
    by_cases hlt : j < L.length
    · have hR1 : RingI wr b og size L := HR.out.keep (HB.out.block b HR.out.lt) (fun g e => HB.out.block g (HR.out.glt g e))
      have HP := Lib.hid (peek_in hR1 j hlt)
      have hsz : w.heap.size ≤ wr.heap.size := HB.out.size
      clear hR1
      go_wp2_with fail
      refine HP.out.mono ?_
      rintro e w2 ⟨rfl, m, rfl⟩
      go_wp2_with (first | (at_builtin; refine wpList_append1 (w := wr.drewN m) 22 HO.out (.int .i64 0) Try.underlying22 Try.infoI rfl (by omega) (by omega) (by simpa using hsz) rfl rfl rfl rfl rfl ?_) | fail)
      intro v' w' hown' hg
      have hb' : Below w.heap.size w w' := (HB.out.trans (Only.below (Only.drewN wr m (fun _ => False)) hsz (fun _ _ h => h))).grown hg (by simpa using hsz) (fun k hk => (HO.out.lt k hk).1)
      have hown2 : w'.ownsRow w.heap.size 3 1 v' (j + 1) ((L.take (j + 1)).map (Value.int .i64)) := by
        rw [List.take_succ_eq_append_getElem hlt, List.map_append, List.map_take]
        exact hown'
      have HO' := Lib.hid hown2
      clear hown2
      have HB' := Lib.hid hb'
      clear hown' hb' hg
      go_wp2
      go_roundg (L.length - (j + 1))
      case measure => have := HJ.out; omega
      case rel => exact ⟨j + 1, by omega, by go_num, HO'.out, HB'.out⟩
    · obtain rfl : j = L.length := by have := HJ.out; omega
      go_wp2
      go_ret
      exact ⟨_, rfl, by simpa using HO.out, HB.out⟩

end Go.Proofs.Ytlfciaiaamcopaa
