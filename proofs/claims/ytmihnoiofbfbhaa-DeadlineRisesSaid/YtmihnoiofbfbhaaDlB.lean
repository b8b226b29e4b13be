/- Chapter 18: egressref01.Add; Later, the program's and the reference's. -/
import Derived.Test.YtmihnoiofbfbhaaDlA
namespace Go.Proofs.Ytmihnoiofbfbhaa
open Go.RowKit

theorem Try.infoI : (Try.prog.info? 3).map (fun i => (i.zero, i.size, i.bytes)) = some (some (.int .i64 0), 1, 8) := by kernel_rfl

theorem drewN_below (w : World) (n : Nat) : Below w.heap.size w (w.drewN n) := ⟨rfl, rfl, rfl, Nat.le_refl _, fun _ _ => rfl⟩

set_option maxHeartbeats 400000 in
theorem max_any (w : World) : Calls Try.prog 43 #[] w fun e w' => e = .returned (.int .u64 18446744073709551615) ∧ w' = w := by
  go_enter Try.func43, Try.ntmps43
  go_wp2
  go_ret
  exact ⟨rfl, rfl⟩

set_option maxHeartbeats 400000 in
theorem maxEpoch_any (w : World) : Calls Try.prog 47 #[] w fun e w' => e = .returned (.int .i64 1099511627776) ∧ w' = w := by
  go_enter Try.func47, Try.ntmps47
  go_wp2
  go_ret
  exact ⟨rfl, rfl⟩

/-- What the reference's Add answers. -/
def AddPost (zs : List Int) (w : World) (e : Ending) (w' : World) : Prop :=
  ((zs.sum ≤ 18446744073709551615 → e = .returned (.tuple #[.int .u64 zs.sum, .bool true])) ∧ (18446744073709551615 < zs.sum → e = .returned (.tuple #[.int .u64 0, .bool false]))) ∧ ∃ m, w' = w.drewN m

set_option maxHeartbeats 400000 in
theorem refadd_some (b off n cap : Nat) (zs : List Int) (w : World) (hl : n ≤ 1048576) (hn : n = zs.length) (hcell : ∀ j (h : j < zs.length), w.cell? ⟨b, off + j, none⟩ = some (.int .u64 zs[j]))
    (hz : ∀ x ∈ zs, 0 ≤ x ∧ x ≤ 18446744073709551615) :
    Calls Try.prog 27 #[.slice (some ⟨b, off, none⟩) n cap] w (AddPost zs w) := by
  subst hn
  go_enter Try.func27, Try.ntmps27
  go_wp2_with fail
  go_loopw [4, 5] (fun r i wr => ∃ (k : Nat) (q : Int), k ≤ zs.length ∧ i = .int .i64 k ∧ r = .int .u64 q ∧ 0 ≤ q ∧ q ≤ 18446744073709551615 ∧ Hid (q = (zs.take k).sum) ∧ Hid (∃ m, wr = w.drewN m)) (fun _ i _ => zs.length - (intOf i).toNat)
  case atStart => exact ⟨0, 0, Nat.zero_le _, rfl, rfl, by omega, by omega, by simp [Hid], 0, rfl⟩
  case round =>
    obtain ⟨k, q, hk, rfl, rfl, hq0, hq1, HF, HD⟩ := hrel
    by_cases hlt : k < zs.length
    · have hck : wr.cell? ⟨b, off + k, none⟩ = some (.int .u64 zs[k]) := by obtain ⟨m, rfl⟩ := HD.out; exact hcell k hlt
      have hzk := hz zs[k] (List.getElem_mem _)
      have HS := Lib.hid (Pl.take_succ' zs k hlt)
      have HL := Lib.hid (Pl.sum_take_le zs (k + 1) (fun x hx => (hz x hx).1))
      clear hcell hz
      have hz0 := hzk.1
      have hz1 := hzk.2
      have HX := Lib.hid (show zs[k] = zs[k] from rfl)
      generalize hx : zs[k] = x at hck hzk hz0 hz1
      have HXX := Lib.hid hx
      clear hx HX
      have hi1 : (k : Int) < (zs.length : Int) := by omega
      have hw1 : IntKind.u64.wrap (18446744073709551615 - q) = 18446744073709551615 - q := IntWalk.u64_in _ (by omega)
      by_cases hx : q + x ≤ 18446744073709551615
      · have hd : decide (18446744073709551615 - q < x) = false := by simp; omega
        have HW := Lib.hid hw1
        go_wp2
        go_quiet ((go_at_call 43; exact Calls.quiet_of_same (max_any _)))
        clear hw1 hd
        go_wp2
        go_roundw
        case rel => exact ⟨k + 1, q + x, by omega, by go_num, rfl, by omega, by omega, by rw [Hid, HS.out, ← HF.out, HXX.out], by obtain ⟨m, rfl⟩ := HD.out; exact ⟨_, World.drewN_drewN _ _ _⟩⟩
        case measure => simp [intOf]; omega
      · have hd : decide (18446744073709551615 - q < x) = true := by simp; omega
        go_wp2
        go_quiet ((go_at_call 43; exact Calls.quiet_of_same (max_any _)))
        clear hw1 hd
        go_wp2
        refine bodyPost_ret (results_tmp2 rfl _ _ _) rfl ?_
        have h1 := HL.out
        have h2 := HS.out
        have h3 := HF.out
        have h4 := HXX.out
        exact ⟨⟨fun h => absurd h (by omega), fun _ => rfl⟩, by obtain ⟨m, rfl⟩ := HD.out; exact ⟨_, World.drewN_drewN _ _ _⟩⟩
    · obtain rfl : zs.length = k := by omega
      have H5 : Hid (q = zs.sum) := by have := HF.out; rwa [List.take_length] at this
      clear HF hcell hz
      go_wp2
      refine bodyPost_ret (results_tmp2 rfl _ _ _) rfl ?_
      exact ⟨⟨fun _ => ret2 (int_eq H5.out) rfl, fun h => absurd h (by rw [← H5.out]; omega)⟩, HD.out⟩

theorem own_new (w : World) (xs : List Value) (e : TypeId) (n : Nat) (hn : n = xs.length) (h : n ≤ 1000000) : (w.alloc (.cells xs.toArray e)).ownsRow w.heap.size e 1 (.slice (some ⟨w.heap.size, 0, none⟩) n n) n xs := by
  subst hn
  exact ⟨by simp, .inr ⟨w.heap.size, xs.length, xs.toArray, rfl, Nat.le_refl _, heap_alloc_new w _, Nat.le_refl _, by unfold maxLen; omega, by simp, by simp⟩⟩

theorem ints_of_own {w : World} {base e n : Nat} {k : IntKind} {a : Option Addr} {m c : Nat} {zs : List Int} (h : w.ownsRow base e 1 (.slice a m c) n (zs.map (Value.int k))) : Ints w k a n zs := by
  have hl : n = zs.length := by have := h.1; simp at this; exact this.symm
  refine ⟨hl, ?_⟩
  rcases h.2 with ⟨_, h2⟩ | ⟨g, cap, cur, hv, _⟩
  · exact .inl (List.eq_nil_of_length_eq_zero (by omega))
  · have hg : a = some ⟨g, 0, none⟩ := by injection hv
    subst hg
    refine .inr ⟨g, 0, rfl, fun j hj => ?_⟩
    have := h.cells (g := g) rfl j (.int k zs[j]) (by simp [hj])
    rwa [add_off] at this

theorem ints_below {w w' : World} {k : IntKind} {a : Option Addr} {n : Nat} {zs : List Int} (h : Ints w k a n zs) (hb : Below w.heap.size w w') (hl : ∀ ad, a = some ad → ad.block < w.heap.size) : Ints w' k a n zs :=
  h.keep fun ad hd => hb.block _ (hl ad hd)

set_option maxHeartbeats 800000 in
theorem later_any (e : Int) (A : Option Addr) (n cap : Nat) (by_ : List Int) (w : World) (hI : Ints w .i64 A n by_) (hl : ∀ ad, A = some ad → ad.block < w.heap.size) (hn : n ≤ 1000) :
    Calls Try.prog 46 #[.int .i64 e, .slice A n cap] w (Ans (Pl.lat (e :: by_) 0) w) := by
  have HO := Lib.hid (own_new w [.int .i64 e] 3 1 rfl (by omega))
  have hI1 := ints_below hI ((Below.refl _ w).alloc (Nat.le_refl _) (.cells #[.int .i64 e] 3)) hl
  have HI := Lib.hid hI1
  have hlen : (e :: by_).length = n + 1 := by simp [hI.1]
  obtain ⟨l, hle⟩ : ∃ l, l = e :: by_ := ⟨_, rfl⟩
  rw [← hle] at hlen ⊢
  have HL := Lib.hid hlen
  have HLE := Lib.hid hle
  clear hI hI1 hl hlen hle
  go_enter Try.func46, Try.ntmps46
  go_wp2_with (first
    | (at_builtin; refine wpList_appendI (s := .tmp 10) (x := .tmp 11) 41 HO.out HI.out (.int .i64 0) Try.underlying41 Try.infoI rfl (by omega) (by omega) (by simp) rfl rfl rfl rfl ?_)
    | fail)
  intro v1 w1 hown1 hg1
  have hown1' : w1.ownsRow w.heap.size 3 1 v1 (n + 1) (l.map (Value.int .i64)) := by
    have := hown1
    rw [Nat.add_comm 1 n] at this
    rw [HLE.out]
    simpa using this
  obtain ⟨g, cp, hv, hgb, hgl, hgc⟩ := own_form hown1' (by omega)
  subst hv
  have hb1 : Below w.heap.size w w1 := ((Below.refl _ w).alloc (Nat.le_refl _) (.cells #[.int .i64 e] 3)).grown hg1 (by simp) (by intro k hk; simp [Value.ownBlock] at hk; omega)
  obtain ⟨-, hi0 | ⟨g', o', hgo, hcell⟩⟩ := ints_of_own hown1'
  · rw [HLE.out] at hi0; cases hi0
  injection hgo with hgo
  injection hgo with h1 h2
  subst h1; subst h2
  have HC := Lib.hid hcell
  have HB := Lib.hid hb1
  clear hown1 hown1' hg1 hb1 hcell HO HI
  have hll : l.length = n + 1 := HL.out
  go_wp2_with fail
  go_loop [6, 14] (fun r i => ∃ (k : Nat) (q : Int), k ≤ n + 1 ∧ i = .int .i64 k ∧ r = .int .i64 q ∧ 0 ≤ q ∧ q ≤ 1099511627776 ∧ Hid (Pl.lat l 0 = Pl.lat (l.drop k) q)) (fun _ i => n + 1 - (intOf i).toNat)
  case atStart => exact ⟨0, 0, by omega, rfl, rfl, by omega, by omega, rfl⟩
  case round =>
    obtain ⟨k, q, hk, rfl, rfl, hq0, hq1, HF⟩ := hrel
    by_cases hlt : k < l.length
    · have hck := HC.out k hlt
      rw [Nat.zero_add] at hck
      have HST := Lib.hid (Pl.lat_stop l k q hlt)
      have HSP := Lib.hid (Pl.lat_step l k q hlt)
      generalize l[k] = x at hck HST HSP
      have hkn : k < n + 1 := by omega
      clear hll
      by_cases hx : x < 0
      · have HE : Hid (Pl.lat l 0 = none) := by rw [Hid, HF.out]; exact HST.out (.inl hx)
        go_wp2
        go_ret2
        exact ⟨by rw [HE.out]; rfl, HB.out⟩
      · have hx0 : 0 ≤ x := by omega
        clear hx
        by_cases hx : 1099511627776 - q < x
        · have HE : Hid (Pl.lat l 0 = none) := by rw [Hid, HF.out]; exact HST.out (.inr hx)
          go_wp2
          go_ret2
          exact ⟨by rw [HE.out]; rfl, HB.out⟩
        · have hx1 : x ≤ 1099511627776 - q := by omega
          have HE : Hid (Pl.lat l 0 = Pl.lat (l.drop (k + 1)) (q + x)) := by rw [Hid, HF.out]; exact HSP.out hx0 hx1
          clear hx
          go_wp2
          go_round
          case rel => exact ⟨k + 1, q + x, by omega, by go_num, rfl, by omega, by omega, HE⟩
          case measure => simp [intOf]; omega
    · have hkl : k = l.length := by omega
      have HE : Hid (Pl.lat l 0 = some q) := by rw [Hid, HF.out, hkl]; exact Pl.lat_end l q
      have hkn : k = n + 1 := by omega
      subst hkn
      clear hkl hll hlt
      go_wp2
      go_ret2
      exact ⟨by rw [HE.out]; rfl, HB.out⟩

end Go.Proofs.Ytmihnoiofbfbhaa
