/- Chapter 18: Exit, Withdraw, Pay; the reference's Bound and Pay. -/
import Derived.Test.YtmihnoiofbfbhaaDlG
namespace Go.Proofs.Ytmihnoiofbfbhaa
open Go.RowKit
set_option linter.unusedSimpArgs false

/-- The numbers of a call: two weights, a configuration that Check lets by. -/
structure Good (a wt : Int) (c : Cfg) : Prop where
  a0 : 0 ≤ a
  a1 : a ≤ 18446744073709551615
  w0 : 0 ≤ wt
  w1 : wt ≤ 18446744073709551615
  f0 : 0 ≤ c.forced
  ok : c.Ok

theorem reflater_any (e : Int) (b off n cap : Nat) (l : List Int) (w : World) (hn : n = l.length) (hl : n ≤ 1000) (hcell : ∀ j (h : j < l.length), w.cell? ⟨b, off + j, none⟩ = some (.int .i64 l[j])) :
    Calls Try.prog 30 #[.int .i64 e, .slice (some ⟨b, off, none⟩) n cap] w (Ans (Pl.lat (e :: l) 0) w) := by
  by_cases h0 : 0 ≤ e ∧ e ≤ 1099511627776
  · exact reflater_some e b off n cap l w h0.1 h0.2 hn hl hcell
  · exact reflater_out e _ n cap l w (by omega)

theorem bnd_ref {a wt : Int} {c : Cfg} (g : Good a wt c) (w : World) : Calls Try.prog 12 #[.int .u64 a, .int .u64 wt, .agg c.list.toArray] w (Ans (Pl.bnd a wt c.forced c.minChurn) w) :=
  have h8 := g.ok.h8
  have h10 := g.ok.h10
  refboundaries_any a wt c w g.a0 g.a1 g.w0 g.w1 g.f0 (by omega) (by omega) (by omega)

theorem closure_good {e a wt : Int} {c : Cfg} (g : Good a wt c) (p : Nat) (A : Option Addr) (n cap : Nat) (more : List Int) (w : World)
    (hc : Caught w p e a wt c) (hI : Ints w .i64 A n more) (hA : ∀ ad, A = some ad → ad.block < w.heap.size) (hn : n ≤ 100) :
    Calls Try.prog 45 #[.slice A n cap, .pointer (some ⟨p + 1, 0, none⟩), .pointer (some ⟨p + 2, 0, none⟩), .pointer (some ⟨p + 3, 0, none⟩), .pointer (some ⟨p, 0, none⟩)] w (Ans (Pl.bound e (Pl.bnd a wt c.forced c.minChurn) more) w) :=
  have h8 := g.ok.h8
  have h10 := g.ok.h10
  closure_any e a wt c p A n cap more w g.a0 g.a1 g.w0 g.w1 g.f0 (by omega) (by omega) (by omega) hc hI hA hn

theorem sweep_good {c : Cfg} (ok : c.Ok) (w : World) : Calls Try.prog 18 #[.agg c.list.toArray] w fun e w' => e = .returned (.int .i64 (Pl.swp c.capacity c.visits c.pays c.parts c.epl)) ∧ Below w.heap.size w w' :=
  have := ok.h1; have := ok.h15; have := ok.h16; have := ok.h17; have := ok.h14
  sweep_any c w (by omega) (by omega) (by omega) (by omega) (by omega) (by omega) (by omega) (by omega) (by omega)
theorem refsweep_good {c : Cfg} (ok : c.Ok) (w : World) : Calls Try.prog 19 #[.agg c.list.toArray] w fun e w' => e = .returned (.int .i64 (Pl.swp c.capacity c.visits c.pays c.parts c.epl)) ∧ Below w.heap.size w w' :=
  have := ok.h1; have := ok.h15; have := ok.h16; have := ok.h17; have := ok.h14
  refsweep_any c w (by omega) (by omega) (by omega) (by omega) (by omega) (by omega) (by omega) (by omega) (by omega)
theorem swp_good {c : Cfg} (ok : c.Ok) : 0 ≤ Pl.swp c.capacity c.visits c.pays c.parts c.epl ∧ Pl.swp c.capacity c.visits c.pays c.parts c.epl ≤ 4096 := by
  have := ok.h1; have := ok.h15; have := ok.h16; have := ok.h17; have := ok.h14
  have h1 := Pl.swp_nonneg c.capacity c.visits c.pays c.parts c.epl (by omega) (by omega) (by omega)
  have h2 := Pl.swp_le c.capacity c.visits c.pays c.parts c.epl (by omega) (by omega)
  omega

set_option maxHeartbeats 800000 in
theorem exit_any {e a wt : Int} {c : Cfg} (g : Good a wt c) (w : World) :
    Calls Try.prog 13 #[.int .i64 e, .int .u64 a, .int .u64 wt, .agg c.list.toArray] w (Ans (Pl.bound e (Pl.bnd a wt c.forced c.minChurn) []) w) := by
  have hn := CfgAt.new w c
  have hB := (Below.refl w.heap.size w).alloc (Nat.le_refl _) (.cells c.list.toArray 26)
  have HC := Lib.hid (fun p A n cap w h1 h2 h3 h4 => closure_good g (e := e) p A n cap [] w h1 h2 h3 h4)
  have HBo := Lib.hid (fun w => bounds_any e a wt c w)
  have HN := Lib.hid hn
  have HB := Lib.hid hB
  generalize Pl.bound e (Pl.bnd a wt c.forced c.minChurn) [] = res at *
  clear hn hB g
  go_enter Try.func13, Try.ntmps13
  go_wp2_with (first | (with_reducible show wpList _ _ _ (_ :: _) _ _; refine wpList_load_cfg (.tmp 7) rfl rfl rfl HN.out ?_) | fail)
  refine (HBo.out _).mono ?_
  rintro en w1 ⟨rfl, hb1, hc1⟩
  have HC1 := Lib.hid hc1
  have HB1 := Lib.hid (HB.out.trans (hb1.mono HB.out.size))
  clear hb1 hc1 HBo HN HB
  generalize ((w.alloc (.cells c.list.toArray 26)).heap.size) = p at *
  go_wp2_with fail
  refine (HC.out _ _ 0 _ _ HC1.out ⟨rfl, .inl rfl⟩ (fun ad h => by cases h) (by omega)).mono ?_
  rintro en w2 ⟨rfl, hb2⟩
  have HB2 := Lib.hid (HB1.out.trans (hb2.mono HB1.out.size))
  clear hb2
  go_wp2
  go_ret2
  exact ⟨rfl, HB2.out⟩

set_option maxHeartbeats 2000000 in
theorem pay_any {e a wt : Int} {c : Cfg} (g : Good a wt c) (w : World) :
    Calls Try.prog 16 #[.int .i64 e, .int .u64 a, .int .u64 wt, .agg c.list.toArray] w (Ans (Pl.bound e (Pl.bnd a wt c.forced c.minChurn) [c.unb, Pl.swp c.capacity c.visits c.pays c.parts c.epl]) w) := by
  obtain ⟨wb, hwb⟩ : ∃ wb, wb = w.alloc (.cells c.list.toArray 26) := ⟨_, rfl⟩
  have hn : CfgAt wb w.heap.size c := by rw [hwb]; exact CfgAt.new w c
  have hB : Below w.heap.size w wb := by rw [hwb]; exact (Below.refl w.heap.size w).alloc (Nat.le_refl _) _
  have hsz : w.heap.size + 1 ≤ wb.heap.size := by rw [hwb]; simp
  have hr : wb.drew.rangeAt w.heap.size 0 c.list ∧ wb.drew.cell? ⟨w.heap.size, 10, none⟩ = some (.int .i64 c.unb) ∧ Hid (Below (w.heap.size + 1) wb wb.drew) := ⟨hn.range, hn.c10, (Below.refl _ _).drew⟩
  have hi : (Try.prog.info? 26).map (·.size) = some c.list.length := by kernel_rfl
  obtain ⟨fs, hd⟩ : ∃ fs, Try.prog.underlying 26 = some (.struct fs) := ⟨_, Try.underlying26⟩
  have HSW := Lib.hid (fun w => sweep_good g.ok w)
  have HC := Lib.hid (fun p A n cap more w h1 h2 h3 h4 => closure_good g (e := e) p A n cap more w h1 h2 h3 h4)
  have HBo := Lib.hid (fun w => bounds_any e a wt c w)
  have HB := Lib.hid hB
  have HW := Lib.hid hwb
  clear hwb hB hn g
  generalize hclg : c.list = cl at *
  clear hclg
  generalize c.unb = x10 at *
  generalize Pl.swp c.capacity c.visits c.pays c.parts c.epl = sw at *
  generalize hbd : Pl.bnd a wt c.forced c.minChurn = bo at *
  clear hbd
  go_enter Try.func16, Try.ntmps16
  go_wp2_with fail
  rw [← HW.out]
  refine wp_region_held_drew (S := fun w' => w'.rangeAt w.heap.size 0 cl ∧ w'.cell? ⟨w.heap.size, 10, none⟩ = some (.int .i64 x10) ∧ Hid (Below (w.heap.size + 1) wb w')) (by kernel_rfl) hr (fun hS => ?_)
  refine wpAnyH_take (i := 0) (v := ?vr0) rfl (by kernel_rfl) (by kernel_rfl) (by kernel_rfl) (fun _ _ _ h => h) (Or.inl ⟨by rfl, ?yr0⟩) hS ?zr0
  case yr0 => intro w hSw; (try dsimp only at hSw); go_simp; (try with_reducible rfl)
  try simp only [Act.put, List.getElem_toArray, List.getElem_cons_succ, List.getElem_cons_zero, List.setIfInBounds_toArray, List.set_cons_zero, List.set_cons_succ]
  refine wpAnyH_take (i := 1) (v := ?vr1) rfl (by kernel_rfl) (by kernel_rfl) (by kernel_rfl) (fun _ _ _ h => h) (Or.inl ⟨by rfl, ?yr1⟩) hS ?zr1
  case yr1 => intro w hSw; (try dsimp only at hSw); go_simp; (try with_reducible rfl)
  try simp only [Act.put, List.getElem_toArray, List.getElem_cons_succ, List.getElem_cons_zero, List.setIfInBounds_toArray, List.set_cons_zero, List.set_cons_succ]
  refine wpAnyH_take (i := 2) (v := ?vr2) rfl (by kernel_rfl) (by kernel_rfl) (by kernel_rfl) (fun _ _ _ h => h) (Or.inl ⟨by rfl, ?yr2⟩) hS ?zr2
  case yr2 => intro w hSw; (try dsimp only at hSw); go_simp; (try with_reducible rfl)
  try simp only [Act.put, List.getElem_toArray, List.getElem_cons_succ, List.getElem_cons_zero, List.setIfInBounds_toArray, List.set_cons_zero, List.set_cons_succ]
  refine wpAnyH_take (i := 3) rfl (by kernel_rfl) (by kernel_rfl) (by kernel_rfl) (fun _ _ _ h => h) (yieldsIf_load_mid (by rfl) _ _ rfl _ _ rfl cl _ (fun w hS => hS.1) hd rfl hi) hS ?_
  try simp only [Act.put, List.getElem_toArray, List.getElem_cons_succ, List.getElem_cons_zero, List.setIfInBounds_toArray, List.set_cons_zero, List.set_cons_succ]
  refine wpAnyH_take (i := 5) (v := ?vr5) rfl (by kernel_rfl) (by kernel_rfl) (by kernel_rfl) (fun _ _ _ h => h) (Or.inl ⟨by rfl, ?yr5⟩) hS ?zr5
  case yr5 => intro w hSw; (try dsimp only at hSw); go_simp; (try with_reducible rfl)
  try simp only [Act.put, List.getElem_toArray, List.getElem_cons_succ, List.getElem_cons_zero, List.setIfInBounds_toArray, List.set_cons_zero, List.set_cons_succ]
  refine wpAnyH_take (i := 6) (v := ?vr6) rfl (by kernel_rfl) (by kernel_rfl) (by kernel_rfl) (fun _ _ _ h => h) (Or.inl ⟨by rfl, ?yr6⟩) hS ?zr6
  case yr6 => intro w hSw; (try dsimp only at hSw); go_simp; (try with_reducible rfl)
  try simp only [Act.put, List.getElem_toArray, List.getElem_cons_succ, List.getElem_cons_zero, List.setIfInBounds_toArray, List.set_cons_zero, List.set_cons_succ]
  refine wpAnyH_take (i := 7) rfl (by kernel_rfl) (by kernel_rfl) (by kernel_rfl) (fun _ _ _ h => h) (yieldsIf_load_mid (by rfl) _ _ rfl _ _ rfl cl _ (fun w hS => hS.1) hd rfl hi) hS ?_
  try simp only [Act.put, List.getElem_toArray, List.getElem_cons_succ, List.getElem_cons_zero, List.setIfInBounds_toArray, List.set_cons_zero, List.set_cons_succ]
  refine wpAnyH_ready (rs := [4]) (by kernel_rfl) (by simp) (AllReadyH.cons rfl (fun K hK => ?_) AllReadyH.nil)
  go_simp
  refine (HBo.out _).mono ?_
  rintro en w2 ⟨rfl, hb2, hc2⟩
  have HC2 := Lib.hid hc2
  have hS' := mk_next1 hS hsz hb2
  clear hS hb2 hc2
  generalize hpg : wb.drew.heap.size = p at *
  clear hpg
  refine hK.out _ _ hS' (fun hS => ?_)
  clear hK hS' K
  try simp only [Act.put, List.getElem_toArray, List.getElem_cons_succ, List.getElem_cons_zero, List.setIfInBounds_toArray, List.set_cons_zero, List.set_cons_succ]
  refine wpAnyH_ready (rs := [8]) (by kernel_rfl) (by simp) (AllReadyH.cons rfl (fun K hK => ?_) AllReadyH.nil)
  go_simp
  refine (HSW.out _).mono ?_
  rintro en w3 ⟨rfl, hb3⟩
  have hS' := mk_next1 hS hsz hb3
  have HC3 := Lib.hid (HC2.out.below hb3)
  clear hS hb3 HC2
  refine hK.out _ _ hS' (fun hS => ?_)
  clear hK hS' K
  try simp only [Act.put, List.getElem_toArray, List.getElem_cons_succ, List.getElem_cons_zero, List.setIfInBounds_toArray, List.set_cons_zero, List.set_cons_succ]
  refine wpAnyH_ready (rs := [9]) (by kernel_rfl) (by simp) (AllReadyH.cons rfl (fun K hK => ?_) AllReadyH.nil)
  go_simp
  have hal : Below w3.heap.size w3 (w3.alloc (.cells #[.int .i64 x10, .int .i64 sw] 3)) := (Below.refl _ _).alloc (Nat.le_refl _) _
  have hS' := mk_next1 hS hsz hal
  have HC4 := Lib.hid (HC3.out.below hal)
  have HI4 := Lib.hid (new_intsk w3 .i64 3 [x10, sw])
  clear hS hal HC3
  refine hK.out _ _ hS' (fun hS => ?_)
  clear hK hS' K
  try simp only [Act.put, List.getElem_toArray, List.getElem_cons_succ, List.getElem_cons_zero, List.setIfInBounds_toArray, List.set_cons_zero, List.set_cons_succ]
  refine wpAnyH_ready (rs := [10]) (by kernel_rfl) (by simp) (AllReadyH.cons rfl (fun K hK => ?_) AllReadyH.nil)
  go_simp
  refine (HC.out _ _ 2 _ [x10, sw] _ HC4.out HI4.out (fun ad h => by cases h; simp) (by omega)).mono ?_
  rintro en w5 ⟨rfl, hb5⟩
  have hS' := mk_next1 hS hsz hb5
  clear hS hb5
  refine hK.out _ _ hS' (fun hS => ?_)
  clear hK hS' K
  try simp only [Act.put, List.getElem_toArray, List.getElem_cons_succ, List.getElem_cons_zero, List.setIfInBounds_toArray, List.set_cons_zero, List.set_cons_succ]
  refine wpAnyH_take (i := 11) (v := ?vr11) rfl (by kernel_rfl) (by kernel_rfl) (by kernel_rfl) (fun _ _ _ h => h) (Or.inl ⟨by rfl, ?yr11⟩) hS ?zr11
  case yr11 => intro w hSw; (try dsimp only at hSw); go_simp; (try with_reducible rfl)
  try simp only [Act.put, List.getElem_toArray, List.getElem_cons_succ, List.getElem_cons_zero, List.setIfInBounds_toArray, List.set_cons_zero, List.set_cons_succ]
  refine wpAnyH_take (i := 12) (v := ?vr12) rfl (by kernel_rfl) (by kernel_rfl) (by kernel_rfl) (fun _ _ _ h => h) (Or.inl ⟨by rfl, ?yr12⟩) hS ?zr12
  case yr12 => intro w hSw; (try dsimp only at hSw); go_simp; (try with_reducible rfl)
  try simp only [Act.put, List.getElem_toArray, List.getElem_cons_succ, List.getElem_cons_zero, List.setIfInBounds_toArray, List.set_cons_zero, List.set_cons_succ]
  refine wpAnyH_take (i := 13) (v := ?vr13) rfl (by kernel_rfl) (by kernel_rfl) (by kernel_rfl) (fun _ _ _ h => h) (Or.inl ⟨by rfl, ?yr13⟩) hS ?zr13
  case yr13 => intro w hSw; (try dsimp only at hSw); go_simp; (try with_reducible rfl)
  try simp only [Act.put, List.getElem_toArray, List.getElem_cons_succ, List.getElem_cons_zero, List.setIfInBounds_toArray, List.set_cons_zero, List.set_cons_succ]
  refine wpAnyH_take (i := 14) (v := ?vr14) rfl (by kernel_rfl) (by kernel_rfl) (by kernel_rfl) (fun _ _ _ h => h) (Or.inl ⟨by rfl, ?yr14⟩) hS ?zr14
  case yr14 => intro w hSw; (try dsimp only at hSw); go_simp; (try with_reducible rfl)
  try simp only [Act.put, List.getElem_toArray, List.getElem_cons_succ, List.getElem_cons_zero, List.setIfInBounds_toArray, List.set_cons_zero, List.set_cons_succ]
  refine wpAnyH_done (by kernel_rfl) ?_ _
  obtain ⟨-, -, hb⟩ := hS
  have HBb := Lib.hid (HB.out.trans (hb.out.mono (by omega)))
  clear hb hr
  go_wp2
  go_ret2
  exact ⟨rfl, HBb.out⟩

set_option maxHeartbeats 2000000 in
theorem withdraw_any {e a wt : Int} {c : Cfg} (g : Good a wt c) (w : World) :
    Calls Try.prog 15 #[.int .i64 e, .int .u64 a, .int .u64 wt, .agg c.list.toArray] w (Ans (Pl.bound e (Pl.bnd a wt c.forced c.minChurn) [c.unb]) w) := by
  obtain ⟨wb, hwb⟩ : ∃ wb, wb = w.alloc (.cells c.list.toArray 26) := ⟨_, rfl⟩
  have hn : CfgAt wb w.heap.size c := by rw [hwb]; exact CfgAt.new w c
  have hB : Below w.heap.size w wb := by rw [hwb]; exact (Below.refl w.heap.size w).alloc (Nat.le_refl _) _
  have hsz : w.heap.size + 1 ≤ wb.heap.size := by rw [hwb]; simp
  have hr : wb.drew.rangeAt w.heap.size 0 c.list ∧ wb.drew.cell? ⟨w.heap.size, 10, none⟩ = some (.int .i64 c.unb) ∧ Hid (Below (w.heap.size + 1) wb wb.drew) := ⟨hn.range, hn.c10, (Below.refl _ _).drew⟩
  have hi : (Try.prog.info? 26).map (·.size) = some c.list.length := by kernel_rfl
  obtain ⟨fs, hd⟩ : ∃ fs, Try.prog.underlying 26 = some (.struct fs) := ⟨_, Try.underlying26⟩
  have HSW := Lib.hid (fun w => sweep_good g.ok w)
  have HC := Lib.hid (fun p A n cap more w h1 h2 h3 h4 => closure_good g (e := e) p A n cap more w h1 h2 h3 h4)
  have HBo := Lib.hid (fun w => bounds_any e a wt c w)
  have HB := Lib.hid hB
  have HW := Lib.hid hwb
  clear hwb hB hn g
  generalize hclg : c.list = cl at *
  clear hclg
  generalize c.unb = x10 at *
  generalize Pl.swp c.capacity c.visits c.pays c.parts c.epl = sw at *
  generalize hbd : Pl.bnd a wt c.forced c.minChurn = bo at *
  clear hbd
  go_enter Try.func15, Try.ntmps15
  go_wp2_with fail
  rw [← HW.out]
  refine wp_region_held_drew (S := fun w' => w'.rangeAt w.heap.size 0 cl ∧ w'.cell? ⟨w.heap.size, 10, none⟩ = some (.int .i64 x10) ∧ Hid (Below (w.heap.size + 1) wb w')) (by kernel_rfl) hr (fun hS => ?_)
  refine wpAnyH_take (i := 0) (v := ?vr0) rfl (by kernel_rfl) (by kernel_rfl) (by kernel_rfl) (fun _ _ _ h => h) (Or.inl ⟨by rfl, ?yr0⟩) hS ?zr0
  case yr0 => intro w hSw; (try dsimp only at hSw); go_simp; (try with_reducible rfl)
  try simp only [Act.put, List.getElem_toArray, List.getElem_cons_succ, List.getElem_cons_zero, List.setIfInBounds_toArray, List.set_cons_zero, List.set_cons_succ]
  refine wpAnyH_take (i := 1) (v := ?vr1) rfl (by kernel_rfl) (by kernel_rfl) (by kernel_rfl) (fun _ _ _ h => h) (Or.inl ⟨by rfl, ?yr1⟩) hS ?zr1
  case yr1 => intro w hSw; (try dsimp only at hSw); go_simp; (try with_reducible rfl)
  try simp only [Act.put, List.getElem_toArray, List.getElem_cons_succ, List.getElem_cons_zero, List.setIfInBounds_toArray, List.set_cons_zero, List.set_cons_succ]
  refine wpAnyH_take (i := 2) (v := ?vr2) rfl (by kernel_rfl) (by kernel_rfl) (by kernel_rfl) (fun _ _ _ h => h) (Or.inl ⟨by rfl, ?yr2⟩) hS ?zr2
  case yr2 => intro w hSw; (try dsimp only at hSw); go_simp; (try with_reducible rfl)
  try simp only [Act.put, List.getElem_toArray, List.getElem_cons_succ, List.getElem_cons_zero, List.setIfInBounds_toArray, List.set_cons_zero, List.set_cons_succ]
  refine wpAnyH_take (i := 3) rfl (by kernel_rfl) (by kernel_rfl) (by kernel_rfl) (fun _ _ _ h => h) (yieldsIf_load_mid (by rfl) _ _ rfl _ _ rfl cl _ (fun w hS => hS.1) hd rfl hi) hS ?_
  try simp only [Act.put, List.getElem_toArray, List.getElem_cons_succ, List.getElem_cons_zero, List.setIfInBounds_toArray, List.set_cons_zero, List.set_cons_succ]
  refine wpAnyH_take (i := 5) (v := ?vr5) rfl (by kernel_rfl) (by kernel_rfl) (by kernel_rfl) (fun _ _ _ h => h) (Or.inl ⟨by rfl, ?yr5⟩) hS ?zr5
  case yr5 => intro w hSw; (try dsimp only at hSw); go_simp; (try with_reducible rfl)
  try simp only [Act.put, List.getElem_toArray, List.getElem_cons_succ, List.getElem_cons_zero, List.setIfInBounds_toArray, List.set_cons_zero, List.set_cons_succ]
  refine wpAnyH_take (i := 6) (v := ?vr6) rfl (by kernel_rfl) (by kernel_rfl) (by kernel_rfl) (fun _ _ _ h => h) (Or.inl ⟨by rfl, ?yr6⟩) hS ?zr6
  case yr6 => intro w hSw; (try dsimp only at hSw); go_simp; (try with_reducible rfl)
  try simp only [Act.put, List.getElem_toArray, List.getElem_cons_succ, List.getElem_cons_zero, List.setIfInBounds_toArray, List.set_cons_zero, List.set_cons_succ]
  refine wpAnyH_ready (rs := [4, 7]) (by kernel_rfl) (by simp) (AllReadyH.cons rfl (fun K hK => ?_) (AllReadyH.cons rfl (fun K hK => ?_) AllReadyH.nil))
  · go_simp
    refine (HBo.out _).mono ?_
    rintro en w2 ⟨rfl, hb2, hc2⟩
    have HC2 := Lib.hid hc2
    have hS' := mk_next1 hS hsz hb2
    clear hS hb2 hc2
    generalize hpg : wb.drew.heap.size = p at *
    clear hpg
    refine hK.out _ _ hS' (fun hS => ?_)
    clear hK hS' K
    try simp only [Act.put, List.getElem_toArray, List.getElem_cons_succ, List.getElem_cons_zero, List.setIfInBounds_toArray, List.set_cons_zero, List.set_cons_succ]
    refine wpAnyH_ready (rs := [7]) (by kernel_rfl) (by simp) (AllReadyH.cons rfl (fun K hK => ?_) AllReadyH.nil)
    go_simp
    have hal : Below w2.heap.size w2 (w2.alloc (.cells #[.int .i64 x10] 3)) := (Below.refl _ _).alloc (Nat.le_refl _) _
    have hS' := mk_next1 hS hsz hal
    have HC4 := Lib.hid (HC2.out.below hal)
    have HI4 := Lib.hid (new_intsk w2 .i64 3 [x10])
    clear hS hal HC2
    refine hK.out _ _ hS' (fun hS => ?_)
    clear hK hS' K
    try simp only [Act.put, List.getElem_toArray, List.getElem_cons_succ, List.getElem_cons_zero, List.setIfInBounds_toArray, List.set_cons_zero, List.set_cons_succ]
    refine wpAnyH_ready (rs := [8]) (by kernel_rfl) (by simp) (AllReadyH.cons rfl (fun K hK => ?_) AllReadyH.nil)
    go_simp
    refine (HC.out _ _ 1 _ [x10] _ HC4.out HI4.out (fun ad h => by cases h; simp) (by omega)).mono ?_
    rintro en w5 ⟨rfl, hb5⟩
    have hS' := mk_next1 hS hsz hb5
    clear hS hb5
    refine hK.out _ _ hS' (fun hS => ?_)
    clear hK hS' K
    try simp only [Act.put, List.getElem_toArray, List.getElem_cons_succ, List.getElem_cons_zero, List.setIfInBounds_toArray, List.set_cons_zero, List.set_cons_succ]
    refine wpAnyH_take (i := 9) (v := ?vrb09) rfl (by kernel_rfl) (by kernel_rfl) (by kernel_rfl) (fun _ _ _ h => h) (Or.inl ⟨by rfl, ?yrb09⟩) hS ?zrb09
    case yrb09 => intro w hSw; (try dsimp only at hSw); go_simp; (try with_reducible rfl)
    try simp only [Act.put, List.getElem_toArray, List.getElem_cons_succ, List.getElem_cons_zero, List.setIfInBounds_toArray, List.set_cons_zero, List.set_cons_succ]
    refine wpAnyH_take (i := 10) (v := ?vrb010) rfl (by kernel_rfl) (by kernel_rfl) (by kernel_rfl) (fun _ _ _ h => h) (Or.inl ⟨by rfl, ?yrb010⟩) hS ?zrb010
    case yrb010 => intro w hSw; (try dsimp only at hSw); go_simp; (try with_reducible rfl)
    try simp only [Act.put, List.getElem_toArray, List.getElem_cons_succ, List.getElem_cons_zero, List.setIfInBounds_toArray, List.set_cons_zero, List.set_cons_succ]
    refine wpAnyH_take (i := 11) (v := ?vrb011) rfl (by kernel_rfl) (by kernel_rfl) (by kernel_rfl) (fun _ _ _ h => h) (Or.inl ⟨by rfl, ?yrb011⟩) hS ?zrb011
    case yrb011 => intro w hSw; (try dsimp only at hSw); go_simp; (try with_reducible rfl)
    try simp only [Act.put, List.getElem_toArray, List.getElem_cons_succ, List.getElem_cons_zero, List.setIfInBounds_toArray, List.set_cons_zero, List.set_cons_succ]
    refine wpAnyH_take (i := 12) (v := ?vrb012) rfl (by kernel_rfl) (by kernel_rfl) (by kernel_rfl) (fun _ _ _ h => h) (Or.inl ⟨by rfl, ?yrb012⟩) hS ?zrb012
    case yrb012 => intro w hSw; (try dsimp only at hSw); go_simp; (try with_reducible rfl)
    try simp only [Act.put, List.getElem_toArray, List.getElem_cons_succ, List.getElem_cons_zero, List.setIfInBounds_toArray, List.set_cons_zero, List.set_cons_succ]
    refine wpAnyH_done (by kernel_rfl) ?_ _
    obtain ⟨-, -, hb⟩ := hS
    have HBb := Lib.hid (HB.out.trans (hb.out.mono (by omega)))
    clear hb hr
    go_wp2
    go_ret2
    exact ⟨rfl, HBb.out⟩
  · go_simp
    have hal : Below wb.drew.heap.size wb.drew (wb.drew.alloc (.cells #[.int .i64 x10] 3)) := (Below.refl _ _).alloc (Nat.le_refl _) _
    have hS' := mk_next1 hS hsz hal
    have HI3 := Lib.hid (new_intsk wb.drew .i64 3 [x10])
    clear hS hal
    refine hK.out _ _ hS' (fun hS => ?_)
    clear hK hS' K
    try simp only [Act.put, List.getElem_toArray, List.getElem_cons_succ, List.getElem_cons_zero, List.setIfInBounds_toArray, List.set_cons_zero, List.set_cons_succ]
    refine wpAnyH_ready (rs := [4]) (by kernel_rfl) (by simp) (AllReadyH.cons rfl (fun K hK => ?_) AllReadyH.nil)
    go_simp
    refine (HBo.out _).mono ?_
    rintro en w2 ⟨rfl, hb2, hc2⟩
    have HC2 := Lib.hid hc2
    have hsz2 : wb.heap.size < w2.heap.size := by have := hb2.size; simp at this; omega
    have HI4 := Lib.hid (ints_below HI3.out hb2 (fun ad h => by cases h; simp))
    have hS' := mk_next1 hS hsz hb2
    clear hS hb2 hc2 HI3
    replace HC2 : Hid (Caught w2 (wb.heap.size + 1) e a wt c) := by simpa using HC2
    replace HI4 : Hid (Ints w2 .i64 (some ⟨wb.heap.size, 0, none⟩) 1 [x10]) := HI4
    refine hK.out _ _ hS' (fun hS => ?_)
    clear hK hS' K
    try simp only [Act.put, List.getElem_toArray, List.getElem_cons_succ, List.getElem_cons_zero, List.setIfInBounds_toArray, List.set_cons_zero, List.set_cons_succ]
    refine wpAnyH_ready (rs := [8]) (by kernel_rfl) (by simp) (AllReadyH.cons rfl (fun K hK => ?_) AllReadyH.nil)
    go_simp
    refine (HC.out _ _ 1 _ [x10] _ HC2.out HI4.out (fun ad h => by cases h; simpa using hsz2) (by omega)).mono ?_
    rintro en w5 ⟨rfl, hb5⟩
    have hS' := mk_next1 hS hsz hb5
    clear hS hb5
    refine hK.out _ _ hS' (fun hS => ?_)
    clear hK hS' K
    try simp only [Act.put, List.getElem_toArray, List.getElem_cons_succ, List.getElem_cons_zero, List.setIfInBounds_toArray, List.set_cons_zero, List.set_cons_succ]
    refine wpAnyH_take (i := 9) (v := ?vrb19) rfl (by kernel_rfl) (by kernel_rfl) (by kernel_rfl) (fun _ _ _ h => h) (Or.inl ⟨by rfl, ?yrb19⟩) hS ?zrb19
    case yrb19 => intro w hSw; (try dsimp only at hSw); go_simp; (try with_reducible rfl)
    try simp only [Act.put, List.getElem_toArray, List.getElem_cons_succ, List.getElem_cons_zero, List.setIfInBounds_toArray, List.set_cons_zero, List.set_cons_succ]
    refine wpAnyH_take (i := 10) (v := ?vrb110) rfl (by kernel_rfl) (by kernel_rfl) (by kernel_rfl) (fun _ _ _ h => h) (Or.inl ⟨by rfl, ?yrb110⟩) hS ?zrb110
    case yrb110 => intro w hSw; (try dsimp only at hSw); go_simp; (try with_reducible rfl)
    try simp only [Act.put, List.getElem_toArray, List.getElem_cons_succ, List.getElem_cons_zero, List.setIfInBounds_toArray, List.set_cons_zero, List.set_cons_succ]
    refine wpAnyH_take (i := 11) (v := ?vrb111) rfl (by kernel_rfl) (by kernel_rfl) (by kernel_rfl) (fun _ _ _ h => h) (Or.inl ⟨by rfl, ?yrb111⟩) hS ?zrb111
    case yrb111 => intro w hSw; (try dsimp only at hSw); go_simp; (try with_reducible rfl)
    try simp only [Act.put, List.getElem_toArray, List.getElem_cons_succ, List.getElem_cons_zero, List.setIfInBounds_toArray, List.set_cons_zero, List.set_cons_succ]
    refine wpAnyH_take (i := 12) (v := ?vrb112) rfl (by kernel_rfl) (by kernel_rfl) (by kernel_rfl) (fun _ _ _ h => h) (Or.inl ⟨by rfl, ?yrb112⟩) hS ?zrb112
    case yrb112 => intro w hSw; (try dsimp only at hSw); go_simp; (try with_reducible rfl)
    try simp only [Act.put, List.getElem_toArray, List.getElem_cons_succ, List.getElem_cons_zero, List.setIfInBounds_toArray, List.set_cons_zero, List.set_cons_succ]
    refine wpAnyH_done (by kernel_rfl) ?_ _
    obtain ⟨-, -, hb⟩ := hS
    have HBb := Lib.hid (HB.out.trans (hb.out.mono (by omega)))
    clear hb hr
    go_wp2
    go_ret2
    exact ⟨rfl, HBb.out⟩

set_option maxHeartbeats 2000000 in
theorem refbound_any {e a wt m : Int} {c : Cfg} (g : Good a wt c) (w : World) :
    Calls Try.prog 14 #[.int .i64 e, .int .u64 a, .int .u64 wt, .agg c.list.toArray, .int .i64 m] w (Ans (Pl.bound e (Pl.bnd a wt c.forced c.minChurn) [m]) w) := by
  have hn := CfgAt.new w c
  have hB := (Below.refl w.heap.size w).alloc (Nat.le_refl _) (.cells c.list.toArray 26)
  have HP := Lib.hid (fun w => bnd_ref g w)
  have HN := Lib.hid hn
  have HB := Lib.hid hB
  have HBD : Hid (∀ k, Pl.bnd a wt c.forced c.minChurn = some k → Pl.bound e (Pl.bnd a wt c.forced c.minChurn) [m] = Pl.lat (e :: [k, 1, m]) 0) := fun k hk => by rw [hk]; rfl
  have HBN : Hid (Pl.bnd a wt c.forced c.minChurn = none → Pl.bound e (Pl.bnd a wt c.forced c.minChurn) [m] = none) := fun hk => by rw [hk]; rfl
  generalize Pl.bound e (Pl.bnd a wt c.forced c.minChurn) [m] = res at *
  generalize Pl.bnd a wt c.forced c.minChurn = bo at *
  clear hn hB g
  rcases bo with _ | k
  · have HR := Lib.hid (HBN.out rfl)
    go_enter Try.func14, Try.ntmps14
    go_wp2_with (first | (with_reducible show wpList _ _ _ (_ :: _) _ _; refine wpList_load_cfg (.tmp 8) rfl rfl rfl HN.out ?_) | fail)
    refine (HP.out _).mono ?_
    rintro en w1 ⟨rfl, hb1⟩
    have HB1 := Lib.hid (HB.out.trans (hb1.mono HB.out.size))
    clear hb1
    simp only [Pl.oV, Pl.oB, Option.getD_none, Option.isSome_none]
    go_wp2
    go_ret2
    exact ⟨by rw [HR.out]; rfl, HB1.out⟩
  · have HR := Lib.hid (HBD.out k rfl)
    go_enter Try.func14, Try.ntmps14
    go_wp2_with (first | (with_reducible show wpList _ _ _ (_ :: _) _ _; refine wpList_load_cfg (.tmp 8) rfl rfl rfl HN.out ?_) | fail)
    refine (HP.out _).mono ?_
    rintro en w1 ⟨rfl, hb1⟩
    have HB1 := Lib.hid (HB.out.trans (hb1.mono HB.out.size))
    clear hb1
    simp only [Pl.oV, Pl.oB, Option.getD_some, Option.isSome_some]
    obtain ⟨-, hi0 | ⟨b', o', hgo, hcell⟩⟩ := new_intsk w1 .i64 3 [k, 1, m]
    · cases hi0
    injection hgo with hgo
    injection hgo with h1 h2
    subst h1; subst h2
    have HCl := Lib.hid hcell
    clear hcell
    go_wp2_with fail
    refine (reflater_any e _ 0 3 3 [k, 1, m] _ rfl (by omega) HCl.out).mono ?_
    rintro en w2 ⟨rfl, hb2⟩
    have HB3 : Hid (Below w.heap.size w w2) := (HB1.out.alloc HB1.out.size _).trans (hb2.mono (by have := HB1.out.size; simp; omega))
    clear hb2
    rw [← HR.out]
    go_wp2
    go_ret2
    exact ⟨rfl, HB3.out⟩

end Go.Proofs.Ytmihnoiofbfbhaa
