/- Chapter 18: the closure of bounds. -/
import Derived.Test.YtmihnoiofbfbhaaDlF
import Derived.Test.YtmihnoiofbfbhaaApw
namespace Go.Proofs.Ytmihnoiofbfbhaa
open Go.RowKit
set_option linter.unusedSimpArgs false

theorem cell_blk {w : World} {b : Nat} {v : Value} {t : TypeId} (h : w.heap[b]? = some (.cells #[v] t (0, 0))) : w.cell? ⟨b, 0, none⟩ = some v := by
  rw [cell_of_row w b 0 _ _ (0, 0) h]; rfl

set_option maxHeartbeats 2000000 in
theorem closure_any (e a wt : Int) (c : Cfg) (p : Nat) (A : Option Addr) (n cap : Nat) (more : List Int) (w : World) (h0 : 0 ≤ a) (h1 : a ≤ 18446744073709551615) (g0 : 0 ≤ wt) (g1 : wt ≤ 18446744073709551615) (hf0 : 0 ≤ c.forced) (hf1 : c.forced ≤ 18446744073709551615) (hm0 : 1 ≤ c.minChurn) (hm1 : c.minChurn ≤ 18446744073709551615)
    (hc : Caught w p e a wt c) (hI : Ints w .i64 A n more) (hA : ∀ ad, A = some ad → ad.block < w.heap.size) (hn : n ≤ 100) :
    Calls Try.prog 45 #[.slice A n cap, .pointer (some ⟨p + 1, 0, none⟩), .pointer (some ⟨p + 2, 0, none⟩), .pointer (some ⟨p + 3, 0, none⟩), .pointer (some ⟨p, 0, none⟩)] w (Ans (Pl.bound e (Pl.bnd a wt c.forced c.minChurn) more) w) := by
  have HP := Lib.hid (boundaries_any a wt c w h0 h1 g0 g1 hf0 hf1 hm0 hm1)
  have HC := Lib.hid hc.c
  have e1 := cell_blk hc.a
  have e2 := cell_blk hc.wt
  have e0 := cell_blk hc.e
  have HI := Lib.hid hI
  have HA := Lib.hid hA
  have hpl := hc.lt
  have HBD : Hid (∀ k, Pl.bnd a wt c.forced c.minChurn = some k → Pl.bound e (Pl.bnd a wt c.forced c.minChurn) more = Pl.lat (e :: ([k, 1] ++ more)) 0) := fun k hk => by rw [hk]; rfl
  have HBN : Hid (Pl.bnd a wt c.forced c.minChurn = none → Pl.bound e (Pl.bnd a wt c.forced c.minChurn) more = none) := fun hk => by rw [hk]; rfl
  generalize Pl.bound e (Pl.bnd a wt c.forced c.minChurn) more = res at *
  generalize Pl.bnd a wt c.forced c.minChurn = bo at *
  clear hc hI hA h0 h1 g0 g1 hf0 hf1 hm0 hm1
  rcases bo with _ | k
  · have HR := Lib.hid (HBN.out rfl)
    go_enter Try.func45, Try.ntmps45
    go_wp2_with (first | (with_reducible show wpList _ _ _ (_ :: _) _ _; refine wpList_load_cfg (.tmp 3) rfl rfl rfl HC.out ?_) | fail)
    refine HP.out.mono ?_
    rintro en w1 ⟨rfl, hb1⟩
    have HB1 := Lib.hid hb1
    clear hb1
    simp only [Pl.oV, Pl.oB, Option.getD_none, Option.isSome_none]
    go_wp2
    go_ret2
    exact ⟨by rw [HR.out]; rfl, HB1.out⟩
  · have HR := Lib.hid (HBD.out k rfl)
    go_enter Try.func45, Try.ntmps45
    go_wp2_with (first | (with_reducible show wpList _ _ _ (_ :: _) _ _; refine wpList_load_cfg (.tmp 3) rfl rfl rfl HC.out ?_) | fail)
    refine HP.out.mono ?_
    rintro en w1 ⟨rfl, hb1⟩
    have e0' := (hb1.cell (p := ⟨p, 0, none⟩) (by simp; omega)).trans e0
    have HI1 := Lib.hid (ints_below HI.out hb1 HA.out)
    have HB1 := Lib.hid hb1
    have hsz1 : w.heap.size ≤ w1.heap.size := hb1.size
    clear hb1 e0 e1 e2 HC
    simp only [Pl.oV, Pl.oB, Option.getD_some, Option.isSome_some]
    go_wp2_with fail
    have hr : w1.drew.cell? ⟨p, 0, none⟩ = some (.int .i64 e) ∧ Hid (Below w1.heap.size w1 w1.drew) := ⟨e0', (Below.refl _ _).drew⟩
    refine wp_region_held_drew (S := fun w' => w'.cell? ⟨p, 0, none⟩ = some (.int .i64 e) ∧ Hid (Below w1.heap.size w1 w')) (by kernel_rfl) hr (fun hS => ?_)
    refine wpAnyH_take (i := 0) (v := ?vr0) rfl (by kernel_rfl) (by kernel_rfl) (by kernel_rfl) (fun _ _ _ h => h) (Or.inl ⟨by rfl, ?yr0⟩) hS ?zr0
    case yr0 => intro w hSw; (try dsimp only at hSw); go_simp; (try with_reducible rfl)
    try simp only [Act.put, List.getElem_toArray, List.getElem_cons_succ, List.getElem_cons_zero, List.setIfInBounds_toArray, List.set_cons_zero, List.set_cons_succ]
    refine wpAnyH_take (i := 1) (v := ?vr1) rfl (by kernel_rfl) (by kernel_rfl) (by kernel_rfl) (fun _ _ _ h => h) (Or.inl ⟨by rfl, ?yr1⟩) hS ?zr1
    case yr1 => intro w hSw; (try dsimp only at hSw); go_simp; (try with_reducible rfl)
    try simp only [Act.put, List.getElem_toArray, List.getElem_cons_succ, List.getElem_cons_zero, List.setIfInBounds_toArray, List.set_cons_zero, List.set_cons_succ]
    refine wpAnyH_take (i := 3) (v := ?vr3) rfl (by kernel_rfl) (by kernel_rfl) (by kernel_rfl) (fun _ _ _ h => h) (Or.inl ⟨by rfl, ?yr3⟩) hS ?zr3
    case yr3 => intro w hSw; (try dsimp only at hSw); go_simp; (try with_reducible rfl)
    try simp only [Act.put, List.getElem_toArray, List.getElem_cons_succ, List.getElem_cons_zero, List.setIfInBounds_toArray, List.set_cons_zero, List.set_cons_succ]
    refine wpAnyH_ready (rs := [2]) (by kernel_rfl) (by simp) (AllReadyH.cons rfl (fun K hK => ?_) AllReadyH.nil)
    go_simp
    have hS' : (w1.drew.alloc (.cells #[.int .i64 k, .int .i64 1] 3)).cell? ⟨p, 0, none⟩ = some (.int .i64 e) ∧ Hid (Below w1.heap.size w1 (w1.drew.alloc (.cells #[.int .i64 k, .int .i64 1] 3))) := ⟨((Below.refl w1.heap.size w1).drew.alloc (Nat.le_refl _) _).cell (p := ⟨p, 0, none⟩) (by simp; omega) |>.trans e0', (Below.refl _ _).drew.alloc (Nat.le_refl _) _⟩
    clear hS
    refine hK.out _ _ hS' (fun hS => ?_)
    clear hK hS' K
    try simp only [Act.put, List.getElem_toArray, List.getElem_cons_succ, List.getElem_cons_zero, List.setIfInBounds_toArray, List.set_cons_zero, List.set_cons_succ]
    refine wpAnyH_ready (rs := [4]) (by kernel_rfl) (by simp) (AllReadyH.cons rfl (fun K hK => ?_) AllReadyH.nil)
    have hown := own_new w1.drew [.int .i64 k, .int .i64 1] 3 2 rfl (by omega)
    have hI2 := ints_below (w' := w1.drew.alloc (.cells #[.int .i64 k, .int .i64 1] 3)) HI1.out ((Below.refl w1.heap.size w1).drew.alloc (Nat.le_refl _) _) (fun ad h => by have := HA.out ad h; omega)
    refine step_appendI (s := .tmp 21) (x := .tmp 22) 41 hown hI2 (.int .i64 0) Try.underlying41 Try.infoI rfl (by omega) (by omega) (by simp) rfl rfl rfl rfl ?_
    intro v2 w2 hown2 hg2
    have hown2' : w2.ownsRow w1.heap.size 3 1 v2 (2 + n) (([k, 1] ++ more).map (Value.int .i64)) := by simpa using hown2
    obtain ⟨g2, c2, hv2, hgb2, hgl2, hgc2⟩ := own_form hown2' (by omega)
    subst hv2
    have hb2 : Below w1.heap.size w1 w2 := ((Below.refl w1.heap.size w1).drew.alloc (Nat.le_refl _) (.cells #[.int .i64 k, .int .i64 1] 3)).grown hg2 (by simp) (by intro k hk; simp [Value.ownBlock] at hk; omega)
    have hI3 := Lib.hid (ints_of_own hown2')
    have hS' : w2.cell? ⟨p, 0, none⟩ = some (.int .i64 e) ∧ Hid (Below w1.heap.size w1 w2) := ⟨(hb2.cell (p := ⟨p, 0, none⟩) (by simp; omega)).trans e0', hb2⟩
    clear hS hown hI2 hown2 hown2' hg2 hb2
    refine hK.out _ _ hS' (fun hS => ?_)
    clear hK hS' K
    try simp only [Act.put, List.getElem_toArray, List.getElem_cons_succ, List.getElem_cons_zero, List.setIfInBounds_toArray, List.set_cons_zero, List.set_cons_succ]
    refine wpAnyH_ready (rs := [5]) (by kernel_rfl) (by simp) (AllReadyH.cons rfl (fun K hK => ?_) AllReadyH.nil)
    go_simp
    refine (later_any e (some ⟨g2, 0, none⟩) (2 + n) c2 ([k, 1] ++ more) _ hI3.out (fun ad h => by cases h; exact hgl2) (by omega)).mono ?_
    rintro en w3 ⟨rfl, hb3⟩
    have hS' : w3.cell? ⟨p, 0, none⟩ = some (.int .i64 e) ∧ Hid (Below w1.heap.size w1 w3) := ⟨(hb3.cell (World.block_lt_of_cell? _ _ hS.1)).trans hS.1, hS.2.out.trans (hb3.mono hS.2.out.size)⟩
    clear hS hb3 hI3
    rw [← HR.out]
    refine hK.out _ _ hS' (fun hS => ?_)
    clear hK hS' K
    try simp only [Act.put, List.getElem_toArray, List.getElem_cons_succ, List.getElem_cons_zero, List.setIfInBounds_toArray, List.set_cons_zero, List.set_cons_succ]
    refine wpAnyH_take (i := 6) (v := ?vr6) rfl (by kernel_rfl) (by kernel_rfl) (by kernel_rfl) (fun _ _ _ h => h) (Or.inl ⟨by rfl, ?yr6⟩) hS ?zr6
    case yr6 => intro w hSw; (try dsimp only at hSw); go_simp; (try with_reducible rfl)
    try simp only [Act.put, List.getElem_toArray, List.getElem_cons_succ, List.getElem_cons_zero, List.setIfInBounds_toArray, List.set_cons_zero, List.set_cons_succ]
    refine wpAnyH_take (i := 7) (v := ?vr7) rfl (by kernel_rfl) (by kernel_rfl) (by kernel_rfl) (fun _ _ _ h => h) (Or.inl ⟨by rfl, ?yr7⟩) hS ?zr7
    case yr7 => intro w hSw; (try dsimp only at hSw); go_simp; (try with_reducible rfl)
    try simp only [Act.put, List.getElem_toArray, List.getElem_cons_succ, List.getElem_cons_zero, List.setIfInBounds_toArray, List.set_cons_zero, List.set_cons_succ]
    refine wpAnyH_take (i := 8) (v := ?vr8) rfl (by kernel_rfl) (by kernel_rfl) (by kernel_rfl) (fun _ _ _ h => h) (Or.inl ⟨by rfl, ?yr8⟩) hS ?zr8
    case yr8 => intro w hSw; (try dsimp only at hSw); go_simp; (try with_reducible rfl)
    try simp only [Act.put, List.getElem_toArray, List.getElem_cons_succ, List.getElem_cons_zero, List.setIfInBounds_toArray, List.set_cons_zero, List.set_cons_succ]
    refine wpAnyH_take (i := 9) (v := ?vr9) rfl (by kernel_rfl) (by kernel_rfl) (by kernel_rfl) (fun _ _ _ h => h) (Or.inl ⟨by rfl, ?yr9⟩) hS ?zr9
    case yr9 => intro w hSw; (try dsimp only at hSw); go_simp; (try with_reducible rfl)
    try simp only [Act.put, List.getElem_toArray, List.getElem_cons_succ, List.getElem_cons_zero, List.setIfInBounds_toArray, List.set_cons_zero, List.set_cons_succ]
    refine wpAnyH_done (by kernel_rfl) ?_ _
    obtain ⟨-, hb⟩ := hS
    have HBb := Lib.hid (HB1.out.trans (hb.out.mono hsz1))
    clear hb hr
    go_wp2
    go_ret2
    exact ⟨rfl, HBb.out⟩

end Go.Proofs.Ytmihnoiofbfbhaa
