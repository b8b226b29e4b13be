/- Chapter 10: the walk of LimitFits. -/
import Derived.Test.YtddplidjmaflkaaLimC
import Derived.Test.YtddplidjmaflkaaGw
namespace Go.Proofs.Ytddplidjmaflkaa
open Go.RowKit

/-- What is known of what Split counts. -/
structure Fit (zs : List Int) (s : Int) (p1 : Int) (p2 : Nat) : Prop where
  le : p2 ≤ zs.length
  nonneg : 0 ≤ p1
  sum : (zs.take p2).sum + p1 = s
  next : ∀ h : p2 < zs.length, p1 < zs[p2]

theorem ints_below {w w' : World} {k : IntKind} {a : Option Addr} {n : Nat} {zs : List Int} (h : Ints w k a n zs) (hb : Below w.heap.size w w') (hl : ∀ ad, a = some ad → ad.block < w.heap.size) : Ints w' k a n zs :=
  h.keep fun ad hd => hb.block _ (hl ad hd)

theorem list_sum_snoc (zs : List Int) (x : Int) : (zs ++ [x]).sum = zs.sum + x := by
  rw [List.sum_append, List.sum_cons, List.sum_nil]; omega

/-- A row of the call's own that holds integers reads as them. -/
theorem ints_of_own {w : World} {base e n : Nat} {k : IntKind} {a : Option Addr} {m c : Nat} {zs : List Int} (h : w.ownsRow base e 1 (.slice a m c) n (zs.map (Value.int k))) : Ints w k a n zs := by
  have hl : n = zs.length := by have := h.1; simp at this; exact this.symm
  refine ⟨hl, ?_⟩
  rcases h.2 with ⟨_, h2⟩ | ⟨g, cap, cur, hv, _⟩
  · exact .inl (List.eq_nil_of_length_eq_zero (by omega))
  · have hg : a = some ⟨g, 0, none⟩ := by injection hv
    subst hg
    refine .inr ⟨g, 0, rfl, fun j hj => ?_⟩
    have := h.cells (g := g) rfl j (.int k zs[j]) (by simp [hj])
    rwa [add_off] at this

set_option maxHeartbeats 400000 in
theorem limitFits_some (s p1 : Int) (p2 b off n cap : Nat) (zs : List Int) (w : World) (hl : n ≤ 1000) (hn : n = zs.length) (hcap : n ≤ cap) (hbs : b < w.heap.size)
    (hcell : ∀ j (h : j < zs.length), w.cell? ⟨b, off + j, none⟩ = some (.int .u64 zs[j]))
    (hz : ∀ x ∈ zs, 0 ≤ x ∧ x ≤ 18446744073709551615) (h0 : 0 ≤ s) (h1 : s ≤ 18446744073709551615) (hp : Pl.fold zs s = (p1, p2)) (hf : Fit zs s p1 p2) :
    Calls Try.prog 4 #[.int .u64 s, .slice (some ⟨b, off, none⟩) n cap] w fun e w' => e = .returned (.bool true) ∧ Below w.heap.size w w' := by
  have H1 := Lib.hid (split_any (some ⟨b, off, none⟩) n cap zs s w hl ⟨hn, .inr ⟨b, off, rfl, hcell⟩⟩ hz h0 h1)
  rw [hp] at H1
  clear hp
  have hle := hf.le
  have hp0 := hf.nonneg
  have hown0 := World.ownsRow_made (e := 22) (size := 1) w #[] 0 (Nat.le_refl _) (by unfold maxLen; omega) rfl
  have hr0 : Ints (w.alloc (.cells #[] 22)) .u64 (some ⟨b, off, none⟩) p2 (zs.take p2) := by
    refine Ints.keep (w := w) ⟨by simp; omega, .inr ⟨b, off, rfl, fun j hj => ?_⟩⟩ (fun ad hd => ?_)
    · simp at hj
      rw [hcell j (by omega)]; simp
    · cases hd; exact Below.heap_alloc _ _ _ hbs
  have HR := Lib.hid hr0
  have HO := Lib.hid hown0
  have HF := Lib.hid hf
  have HC := Lib.hid hcell
  have HZ := Lib.hid hz
  have HN := Lib.hid hn
  have hle' : p2 ≤ n := by omega
  clear hf hcell hz hle hn hr0 hown0
  go_enter Try.func4, Try.ntmps4
  go_wp2_with fail
  refine H1.out.mono ?_
  rintro e w' ⟨rfl, rfl⟩
  go_wp2_with (first
    | (at_builtin; refine wpList_appendI (s := .tmp 28) (x := .tmp 31) 23 HO.out HR.out (.int .u64 0) Try.underlying23 Try.infoU rfl (by omega) (by omega) (by simp) rfl rfl rfl rfl ?_; intro v1 w1 hown1 hg1; simp only [Nat.zero_add, List.nil_append] at hown1; have HO1 := Lib.hid hown1; have HG1 := Lib.hid hg1; clear hown1 hg1; have hsz1 : w.heap.size + 1 ≤ w1.heap.size := by have := HG1.out.size; simpa using this)
    | (at_builtin; refine wpList_append1 (s := .tmp 32) (x := .tmp 34) 23 HO1.out (.int .u64 0) Try.underlying23 Try.infoU rfl (by omega) (by omega) (by omega) rfl rfl rfl rfl rfl ?_; intro v2 w2 hown2 hg2; have HO2 := Lib.hid hown2; have HG2 := Lib.hid hg2; clear hown2 hg2)
    | fail)
  obtain ⟨g2, cap2, rfl, _, hg2, hcap2⟩ := own_form HO2.out (by omega)
  have hn := HN.out
  have hb1 : Below w.heap.size w w1 := ((Below.refl _ _).alloc (Nat.le_refl _) (.cells #[] 22)).grown HG1.out (by simp) (by intro k hk; simp [Value.ownBlock] at hk; omega)
  have hb2 : Below w.heap.size w w2 := hb1.grown HG2.out (by omega) (by
    intro k hk
    exact (HO1.out.lt k hk).1)
  have hI2 : Ints w2 .u64 (some ⟨g2, 0, none⟩) (p2 + 1) (zs.take p2 ++ [p1]) := by
    have := HO2.out
    rw [show (zs.take p2).map (Value.int .u64) ++ [Value.int .u64 p1] = (zs.take p2 ++ [p1]).map (Value.int .u64) from by simp] at this
    exact ints_of_own this
  have hsum : (zs.take p2 ++ [p1]).sum = s := by rw [list_sum_snoc]; exact HF.out.sum
  have hmx : ∀ x ∈ zs.take p2 ++ [p1], 0 ≤ x ∧ x ≤ 18446744073709551615 := by
    intro x hx
    rcases List.mem_append.1 hx with h | h
    · exact HZ.out x (List.mem_of_mem_take h)
    · simp at h; subst h
      refine ⟨hp0, ?_⟩
      have h3 := HF.out.sum
      have h4 := Pl.sum_nonneg (zs.take p2) (fun y hy => (HZ.out y (List.mem_of_mem_take hy)).1)
      omega
  have HA := add_fits _ _ cap2 _ w2 (by omega) hI2 hmx (by rw [hsum]; omega)
  rw [hsum] at HA
  have HB2 := Lib.hid hb2
  have HAd := Lib.hid HA
  clear HA hsum hmx hI2 hb1 hb2 hn
  refine HAd.out.mono ?_
  rintro e w' ⟨rfl, rfl⟩
  go_wp2_with fail
  refine (alive_any _).mono ?_
  rintro e w3 ⟨rfl, hb3⟩
  have HB3 : Hid (Below w.heap.size w w3) := HB2.out.trans (hb3.mono (by have := HB2.out.size; omega))
  clear hb3
  by_cases hq : p2 < n
  · have hlt : p2 < zs.length := by have := HN.out; omega
    have hc3 : w3.cell? ⟨b, off + p2, none⟩ = some (.int .u64 zs[p2]) := (HB3.out.cell (p := ⟨b, off + p2, none⟩) hbs).trans (HC.out p2 hlt)
    have hnx := HF.out.next hlt
    have hne : ((p2 : Int) == (n : Int)) = false := by rw [beq_eq_false_iff_ne]; omega
    go_wp2
    go_ret
    exact ⟨rfl, HB3.out⟩
  · have hne : ((p2 : Int) == (n : Int)) = true := by rw [beq_iff_eq]; omega
    go_wp2
    go_ret
    exact ⟨rfl, HB3.out⟩

set_option maxHeartbeats 400000 in
theorem limitFits_none (s : Int) (a : Option Addr) (cap : Nat) (w : World) (h0 : 0 ≤ s) (h1 : s ≤ 18446744073709551615) :
    Calls Try.prog 4 #[.int .u64 s, .slice a 0 cap] w fun e w' => e = .returned (.bool true) ∧ Below w.heap.size w w' := by
  have H1 := Lib.hid (split_any a 0 cap [] s w (by omega) ⟨rfl, .inl rfl⟩ (by simp) h0 h1)
  rw [show Pl.fold [] s = (s, 0) from rfl] at H1
  have hown0 := World.ownsRow_made (e := 22) (size := 1) w #[] 0 (Nat.le_refl _) (by unfold maxLen; omega) rfl
  have hr0 : ∀ A : Option Addr, Ints (w.alloc (.cells #[] 22)) .u64 A 0 [] := fun A => ⟨rfl, .inl rfl⟩
  have HR := Lib.hid hr0
  have HO := Lib.hid hown0
  clear hown0 hr0
  go_enter Try.func4, Try.ntmps4
  go_wp2_with fail
  refine H1.out.mono ?_
  rintro e w' ⟨rfl, rfl⟩
  go_wp2_with (first
    | (at_builtin; refine wpList_appendI (s := .tmp 28) (x := .tmp 31) 23 HO.out (HR.out _) (.int .u64 0) Try.underlying23 Try.infoU rfl (by omega) (by omega) (by simp) rfl rfl rfl rfl ?_; intro v1 w1 hown1 hg1; simp only [Nat.zero_add, List.nil_append, List.map_nil] at hown1; have HO1 := Lib.hid hown1; have HG1 := Lib.hid hg1; clear hown1 hg1; have hsz1 : w.heap.size + 1 ≤ w1.heap.size := by have := HG1.out.size; simpa using this)
    | (at_builtin; refine wpList_append1 (s := .tmp 32) (x := .tmp 34) 23 HO1.out (.int .u64 0) Try.underlying23 Try.infoU rfl (by omega) (by omega) (by omega) rfl rfl rfl rfl rfl ?_; intro v2 w2 hown2 hg2; simp only [Nat.zero_add, List.nil_append] at hown2; have HO2 := Lib.hid hown2; have HG2 := Lib.hid hg2; clear hown2 hg2)
    | fail)
  obtain ⟨g2, cap2, rfl, _, hg2, hcap2⟩ := own_form HO2.out (by omega)
  have hb1 : Below w.heap.size w w1 := ((Below.refl _ _).alloc (Nat.le_refl _) (.cells #[] 22)).grown HG1.out (by simp) (by intro k hk; simp [Value.ownBlock] at hk; omega)
  have hb2 : Below w.heap.size w w2 := hb1.grown HG2.out (by omega) (by
    intro k hk
    exact (HO1.out.lt k hk).1)
  have hI2 : Ints w2 .u64 (some ⟨g2, 0, none⟩) 1 [s] := ints_of_own HO2.out
  have HA := add_fits _ _ cap2 _ w2 (by omega) hI2 (by intro x hx; simp at hx; subst hx; exact ⟨h0, h1⟩) (by simp; omega)
  rw [show ([s] : List Int).sum = s from by simp] at HA
  have HB2 := Lib.hid hb2
  have HAd := Lib.hid HA
  clear HA hI2 hb1 hb2
  refine HAd.out.mono ?_
  rintro e w' ⟨rfl, rfl⟩
  go_wp2_with fail
  refine (alive_any _).mono ?_
  rintro e w3 ⟨rfl, hb3⟩
  have HB3 : Hid (Below w.heap.size w w3) := HB2.out.trans (hb3.mono (by have := HB2.out.size; omega))
  clear hb3
  go_wp2
  go_ret
  exact ⟨rfl, HB3.out⟩

set_option maxHeartbeats 400000 in
theorem limitFits_big (s : Int) (a : Option Addr) (n cap : Nat) (w : World) (hl : 1000 < n) (hm : n ≤ 9223372036854775807) :
    Calls Try.prog 4 #[.int .u64 s, .slice a n cap] w fun e w' => e = .returned (.bool true) ∧ Below w.heap.size w w' := by
  go_enter Try.func4, Try.ntmps4
  go_wp2_with fail
  refine (alive_any _).mono ?_
  rintro e w' ⟨rfl, hb⟩
  go_wp2
  go_ret
  exact ⟨rfl, hb⟩

theorem limitFits_walk (a0 : Int) (a1 : Option Addr) (len1 cap1 : Nat) (z1 : List Int) (w : World) (w0 : (Lit.int .u64 a0).wf = true) (w1 : IsRow .u64 w a1 len1 cap1 z1) :
    Calls Try.prog 4 #[.int .u64 a0, .slice a1 len1 cap1] w fun e w' => e = .returned (.bool true) ∧ Below w.heap.size w w' := by
  obtain ⟨h0, h1⟩ := bounds_u64 w0
  obtain ⟨hi, hz⟩ := w1.ints
  have hcap : len1 ≤ cap1 ∧ cap1 ≤ 9223372036854775807 := by
    rcases w1 with ⟨_, h, h', _⟩ | ⟨x, _, h2, h3, _⟩
    · omega
    · unfold maxLen at h3; omega
  by_cases hl : len1 ≤ 1000
  · obtain ⟨hn, hz0 | ⟨b, o, rfl, hcell⟩⟩ := hi
    · rw [hz0] at hn
      obtain rfl : len1 = 0 := hn
      exact limitFits_none a0 a1 cap1 w h0 h1
    · by_cases h0' : len1 = 0
      · subst h0'
        exact limitFits_none a0 _ cap1 w h0 h1
      · exact limitFits_some a0 _ _ b o len1 cap1 _ w hl hn hcap.1 (by
          have := hcell 0 (by omega)
          exact World.block_lt_of_cell? w _ this) hcell (fun x hx => bounds_u64 (hz x hx)) h0 h1 rfl ⟨Pl.fold_le _ _, Pl.fold_nonneg _ _ h0, Pl.fold_sum _ _, fun h => Pl.fold_max _ _ h⟩
  · exact limitFits_big a0 a1 len1 cap1 w (by omega) (by omega)

end Go.Proofs.Ytddplidjmaflkaa
