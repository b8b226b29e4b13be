/- gwei.Saturate, gwei.Add: the sum, or over. -/
import Derived.Test.YtgmbgomlicamdaaRows
import Derived.Test.YtgmbgomlicamdaaBase
import Derived.Test.YtgmbgomlicamdaaSum
namespace Go.Proofs.Ytgmbgomlicamdaa
open Go.RowKit

theorem wrap_over (q x : Int) (h0 : 0 ≤ q) (h1 : q ≤ 18446744073709551615) (h2 : 0 ≤ x) (h3 : x ≤ 18446744073709551615) (h : 18446744073709551615 < q + x) : IntKind.u64.wrap (q + x) < q := by
  rw [show IntKind.u64.wrap (q + x) = q + x - 18446744073709551616 from by simp [IntKind.wrap, IntKind.bits, IntKind.signed]; omega]
  omega

def SatPost (zs : List Int) (w : World) (e : Ending) (w' : World) : Prop :=
  ((zs.sum ≤ 18446744073709551615 → e = .returned (.tuple #[.int .u64 zs.sum, .bool false])) ∧ (18446744073709551615 < zs.sum → e = .returned (.tuple #[.int .u64 18446744073709551615, .bool true]))) ∧ w = w'

set_option maxHeartbeats 400000 in
theorem saturate_some (b off n cap : Nat) (zs : List Int) (w : World) (hl : n ≤ 1048576) (hn : n = zs.length) (hcell : ∀ j (h : j < zs.length), w.cell? ⟨b, off + j, none⟩ = some (.int .u64 zs[j]))
    (hz : ∀ x ∈ zs, 0 ≤ x ∧ x ≤ 18446744073709551615) :
    Calls Try.prog 36 #[.slice (some ⟨b, off, none⟩) n cap] w (SatPost zs w) := by
  subst hn
  go_enter Try.func36, Try.ntmps36
  go_wp2_with fail
  go_loop [4, 9] (fun r i => ∃ (k : Nat) (q : Int), k ≤ zs.length ∧ i = .int .i64 k ∧ r = .int .u64 q ∧ 0 ≤ q ∧ q ≤ 18446744073709551615 ∧ Hid (q = (zs.take k).sum)) (fun _ i => zs.length - (intOf i).toNat)
  case atStart => exact ⟨0, 0, Nat.zero_le _, rfl, rfl, by omega, by omega, by simp [Hid]⟩
  case round =>
    obtain ⟨k, q, hk, rfl, rfl, hq0, hq1, HF⟩ := hrel
    by_cases hlt : k < zs.length
    · have hck := hcell k hlt
      have hzk := hz zs[k] (List.getElem_mem _)
      have HS := Lib.hid (Pl.take_succ' zs k hlt)
      have HL := Lib.hid (Pl.sum_take_le zs (k + 1) (fun x hx => (hz x hx).1))
      clear hcell hz
      by_cases hx : q + zs[k] ≤ 18446744073709551615
      · go_wp2
        go_round
        case rel => exact ⟨k + 1, q + zs[k], by omega, by go_num, rfl, by omega, by omega, by rw [Hid, HS.out, ← HF.out]⟩
        case measure => simp [intOf]; omega
      · have hw := wrap_over q zs[k] hq0 hq1 hzk.1 hzk.2 (by omega)
        go_wp2
        refine bodyPost_ret (results_tmp2 rfl _ _ _) rfl ?_
        have h1 := HL.out
        have h2 := HS.out
        have h3 := HF.out
        exact ⟨⟨fun h => absurd h (by omega), fun _ => rfl⟩, rfl⟩
    · obtain rfl : zs.length = k := by omega
      have H5 : Hid (q = zs.sum) := by have := HF.out; rwa [List.take_length] at this
      clear HF hcell hz
      go_wp2
      refine bodyPost_ret (results_tmp2 rfl _ _ _) rfl ?_
      exact ⟨⟨fun _ => ret2 (int_eq H5.out) rfl, fun h => absurd h (by rw [← H5.out]; omega)⟩, rfl⟩

set_option maxHeartbeats 400000 in
theorem saturate_none (a : Option Addr) (cap : Nat) (w : World) :
    Calls Try.prog 36 #[.slice a 0 cap] w fun e w' => e = .returned (.tuple #[.int .u64 0, .bool false]) ∧ w = w' := by
  go_enter Try.func36, Try.ntmps36
  go_wp2_with fail
  refine wp_loop_rounds 1 ?_
  rw [rounds_succ]
  go_wp2
  go_ret2
  exact ⟨rfl, rfl⟩

theorem saturate_fits (a : Option Addr) (n cap : Nat) (zs : List Int) (w : World) (hl : n ≤ 1048576) (hc : Ints w .u64 a n zs)
    (hz : ∀ x ∈ zs, 0 ≤ x ∧ x ≤ 18446744073709551615) (hs : zs.sum ≤ 18446744073709551615) :
    Calls Try.prog 36 #[.slice a n cap] w fun e w' => e = .returned (.tuple #[.int .u64 zs.sum, .bool false]) ∧ w = w' := by
  obtain ⟨hn, rfl | ⟨b, o, rfl, hcell⟩⟩ := hc
  · obtain rfl : n = 0 := hn
    exact saturate_none a cap w
  · exact (saturate_some b o n cap zs w hl hn hcell hz).mono fun e w' h => ⟨h.1.1 hs, h.2⟩

theorem saturate_over (a : Option Addr) (n cap : Nat) (zs : List Int) (w : World) (hl : n ≤ 1048576) (hc : Ints w .u64 a n zs)
    (hz : ∀ x ∈ zs, 0 ≤ x ∧ x ≤ 18446744073709551615) (hs : 18446744073709551615 < zs.sum) :
    Calls Try.prog 36 #[.slice a n cap] w fun e w' => e = .returned (.tuple #[.int .u64 18446744073709551615, .bool true]) ∧ w = w' := by
  obtain ⟨hn, rfl | ⟨b, o, rfl, hcell⟩⟩ := hc
  · simp at hs
  · exact (saturate_some b o n cap zs w hl hn hcell hz).mono fun e w' h => ⟨h.1.2 hs, h.2⟩

set_option maxHeartbeats 400000 in
theorem add_fits (a : Option Addr) (n cap : Nat) (zs : List Int) (w : World) (hl : n ≤ 1048576) (hc : Ints w .u64 a n zs)
    (hz : ∀ x ∈ zs, 0 ≤ x ∧ x ≤ 18446744073709551615) (hs : zs.sum ≤ 18446744073709551615) :
    Calls Try.prog 33 #[.slice a n cap] w fun e w' => e = .returned (.tuple #[.int .u64 zs.sum, .bool true]) ∧ w = w' := by
  have H := Lib.hid (saturate_fits a n cap zs w hl hc hz hs)
  clear hc hz hs
  go_enter Try.func33, Try.ntmps33
  go_wp2_with fail
  refine H.out.mono ?_
  rintro e w' ⟨rfl, rfl⟩
  go_wp2
  go_ret2
  exact ⟨rfl, rfl⟩

set_option maxHeartbeats 400000 in
theorem add_over (a : Option Addr) (n cap : Nat) (zs : List Int) (w : World) (hl : n ≤ 1048576) (hc : Ints w .u64 a n zs)
    (hz : ∀ x ∈ zs, 0 ≤ x ∧ x ≤ 18446744073709551615) (hs : 18446744073709551615 < zs.sum) :
    Calls Try.prog 33 #[.slice a n cap] w fun e w' => e = .returned (.tuple #[.int .u64 0, .bool false]) ∧ w = w' := by
  have H := Lib.hid (saturate_over a n cap zs w hl hc hz hs)
  clear hc hz hs
  go_enter Try.func33, Try.ntmps33
  go_wp2_with fail
  refine H.out.mono ?_
  rintro e w' ⟨rfl, rfl⟩
  go_wp2
  go_ret2
  exact ⟨rfl, rfl⟩

end Go.Proofs.Ytgmbgomlicamdaa
