/- egressref01.Add: the sum, or over. -/
import Derived.Test.YtgmbgomlicamdaaRows
import Derived.Test.YtgmbgomlicamdaaBase
import Derived.Test.YtgmbgomlicamdaaSum
namespace Go.Proofs.Ytgmbgomlicamdaa
open Go.RowKit
set_option linter.unusedVariables false

theorem Try.infoI : (Try.prog.info? 3).map (fun i => (i.zero, i.size, i.bytes)) = some (some (.int .i64 0), 1, 8) := by kernel_rfl

theorem drewN_below (w : World) (n : Nat) : Below w.heap.size w (w.drewN n) := ⟨rfl, rfl, rfl, Nat.le_refl _, fun _ _ => rfl⟩

set_option maxHeartbeats 400000 in
theorem max_any (w : World) : Calls Try.prog 35 #[] w fun e w' => e = .returned (.int .u64 18446744073709551615) ∧ w' = w := by
  go_enter Try.func35, Try.ntmps35
  go_wp2
  go_ret
  exact ⟨rfl, rfl⟩

/-- What the reference's Add answers. -/
def AddPost (zs : List Int) (w : World) (e : Ending) (w' : World) : Prop :=
  ((zs.sum ≤ 18446744073709551615 → e = .returned (.tuple #[.int .u64 zs.sum, .bool true])) ∧ (18446744073709551615 < zs.sum → e = .returned (.tuple #[.int .u64 0, .bool false]))) ∧ ∃ m, w' = w.drewN m

set_option maxHeartbeats 400000 in
theorem refadd_some (b off n cap : Nat) (zs : List Int) (w : World) (hl : n ≤ 1048576) (hn : n = zs.length) (hcell : ∀ j (h : j < zs.length), w.cell? ⟨b, off + j, none⟩ = some (.int .u64 zs[j]))
    (hz : ∀ x ∈ zs, 0 ≤ x ∧ x ≤ 18446744073709551615) :
    Calls Try.prog 25 #[.slice (some ⟨b, off, none⟩) n cap] w (AddPost zs w) := by
  subst hn
  go_enter Try.func25, Try.ntmps25
  go_wp2_with fail
  go_loopw [4, 5] (fun r i wr => ∃ (k : Nat) (q : Int), k ≤ zs.length ∧ i = .int .i64 k ∧ r = .int .u64 q ∧ 0 ≤ q ∧ q ≤ 18446744073709551615 ∧ Hid (q = (zs.take k).sum) ∧ Hid (∃ m, wr = w.drewN m)) (fun _ i _ => zs.length - (intOf i).toNat)
  case atStart => exact ⟨0, 0, Nat.zero_le _, rfl, rfl, by omega, by omega, by simp [Hid], 0, rfl⟩
  case round =>
    obtain ⟨k, q, hk, rfl, rfl, hq0, hq1, HF, HD⟩ := hrel
    by_cases hlt : k < zs.length
    · have hck : wr.cell? ⟨b, off + k, none⟩ = some (.int .u64 zs[k]) := by obtain ⟨m, rfl⟩ := HD.out; exact hcell k hlt
      have hzk := hz zs[k] (List.getElem_mem _)
      have HS := Lib.hid (Pl.take_succ' zs k hlt)
      have HL := Lib.hid (Pl.sum_take_le zs (k + 1) (fun x hx => (hz x hx).1))
      clear hcell hz
      have hz0 := hzk.1
      have hz1 := hzk.2
      have HX := Lib.hid (show zs[k] = zs[k] from rfl)
      generalize hx : zs[k] = x at hck hzk hz0 hz1
      have HXX := Lib.hid hx
      clear hx HX
      have hi1 : (k : Int) < (zs.length : Int) := by omega
      have hw1 : IntKind.u64.wrap (18446744073709551615 - q) = 18446744073709551615 - q := IntWalk.u64_in _ (by omega)
      by_cases hx : q + x ≤ 18446744073709551615
      · have hd : decide (18446744073709551615 - q < x) = false := by simp; omega
        have HW := Lib.hid hw1
        go_wp2
        go_quiet ((go_at_call 35; exact Calls.quiet_of_same (max_any _)))
        clear hw1 hd
        go_wp2
        go_roundw
        case rel => exact ⟨k + 1, q + x, by omega, by go_num, rfl, by omega, by omega, by rw [Hid, HS.out, ← HF.out, HXX.out], by obtain ⟨m, rfl⟩ := HD.out; exact ⟨_, World.drewN_drewN _ _ _⟩⟩
        case measure => simp [intOf]; omega
      · have hd : decide (18446744073709551615 - q < x) = true := by simp; omega
        go_wp2
        go_quiet ((go_at_call 35; exact Calls.quiet_of_same (max_any _)))
        clear hw1 hd
        go_wp2
        refine bodyPost_ret (results_tmp2 rfl _ _ _) rfl ?_
        have h1 := HL.out
        have h2 := HS.out
        have h3 := HF.out
        have h4 := HXX.out
        exact ⟨⟨fun h => absurd h (by omega), fun _ => rfl⟩, by obtain ⟨m, rfl⟩ := HD.out; exact ⟨_, World.drewN_drewN _ _ _⟩⟩
    · obtain rfl : zs.length = k := by omega
      have H5 : Hid (q = zs.sum) := by have := HF.out; rwa [List.take_length] at this
      clear HF hcell hz
      go_wp2
      refine bodyPost_ret (results_tmp2 rfl _ _ _) rfl ?_
      exact ⟨⟨fun _ => ret2 (int_eq H5.out) rfl, fun h => absurd h (by rw [← H5.out]; omega)⟩, HD.out⟩

set_option maxHeartbeats 400000 in
theorem radd_none (a : Option Addr) (cap : Nat) (w : World) :
    Calls Try.prog 25 #[.slice a 0 cap] w fun e w' => e = .returned (.tuple #[.int .u64 0, .bool true]) ∧ w = w' := by
  go_enter Try.func25, Try.ntmps25
  go_wp2_with fail
  refine wp_loop_rounds 1 ?_
  rw [rounds_succ]
  go_wp2
  go_ret2
  exact ⟨rfl, rfl⟩

theorem radd_fits (a : Option Addr) (n cap : Nat) (zs : List Int) (w : World) (hl : n ≤ 1048576) (hc : Ints w .u64 a n zs)
    (hz : ∀ x ∈ zs, 0 ≤ x ∧ x ≤ 18446744073709551615) (hs : zs.sum ≤ 18446744073709551615) :
    Calls Try.prog 25 #[.slice a n cap] w fun e w' => e = .returned (.tuple #[.int .u64 zs.sum, .bool true]) ∧ ∃ m, w' = w.drewN m := by
  obtain ⟨hn, rfl | ⟨b, o, rfl, hcell⟩⟩ := hc
  · obtain rfl : n = 0 := hn
    exact (radd_none a cap w).mono fun e w' h => ⟨h.1, 0, h.2.symm⟩
  · exact (refadd_some b o n cap zs w hl hn hcell hz).mono fun e w' h => ⟨h.1.1 hs, h.2⟩

theorem radd_over (a : Option Addr) (n cap : Nat) (zs : List Int) (w : World) (hl : n ≤ 1048576) (hc : Ints w .u64 a n zs)
    (hz : ∀ x ∈ zs, 0 ≤ x ∧ x ≤ 18446744073709551615) (hs : 18446744073709551615 < zs.sum) :
    Calls Try.prog 25 #[.slice a n cap] w fun e w' => e = .returned (.tuple #[.int .u64 0, .bool false]) ∧ ∃ m, w' = w.drewN m := by
  obtain ⟨hn, rfl | ⟨b, o, rfl, hcell⟩⟩ := hc
  · simp at hs
  · exact (refadd_some b o n cap zs w hl hn hcell hz).mono fun e w' h => ⟨h.1.2 hs, h.2⟩

end Go.Proofs.Ytgmbgomlicamdaa
