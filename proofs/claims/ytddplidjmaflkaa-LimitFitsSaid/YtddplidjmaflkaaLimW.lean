/- The walks of Sub, fold. -/
import Derived.Test.YtddplidjmaflkaaRows
import Derived.Test.YtddplidjmaflkaaLimP
import Derived.Test.YtddplidjmaflkaaBase
namespace Go.Proofs.Ytddplidjmaflkaa
open Go.RowKit

set_option maxHeartbeats 400000 in
theorem sub_yes (a b : Int) (w : World) (h0 : 0 ≤ b) (h1 : b ≤ a) (h2 : a ≤ 18446744073709551615) :
    Calls Try.prog 13 #[.int .u64 a, .int .u64 b] w fun e w' => e = .returned (.tuple #[.int .u64 (a - b), .bool true]) ∧ w = w' := by
  go_enter Try.func13, Try.ntmps13
  go_wp2
  go_ret2
  exact ⟨rfl, rfl⟩

set_option maxHeartbeats 400000 in
theorem sub_no (a b : Int) (w : World) (h1 : a < b) :
    Calls Try.prog 13 #[.int .u64 a, .int .u64 b] w fun e w' => e = .returned (.tuple #[.int .u64 0, .bool false]) ∧ w = w' := by
  go_enter Try.func13, Try.ntmps13
  go_wp2
  go_ret2
  exact ⟨rfl, rfl⟩



set_option maxHeartbeats 400000 in
theorem fold_some (b off len cap : Nat) (zs : List Int) (s : Int) (w : World) (hl : len ≤ 1000) (hlen : len = zs.length) (hcell : ∀ j (h : j < zs.length), w.cell? ⟨b, off + j, none⟩ = some (.int .u64 zs[j]))
    (hz : ∀ x ∈ zs, 0 ≤ x ∧ x ≤ 18446744073709551615) (h0 : 0 ≤ s) (h1 : s ≤ 18446744073709551615) :
    Calls Try.prog 12 #[.slice (some ⟨b, off, none⟩) len cap, .int .u64 s, .func (.func 13) #[] #[]] w fun e w' =>
      e = .returned (.tuple #[.int .u64 (Pl.fold zs s).1, .int .i64 (Pl.fold zs s).2]) ∧ w = w' := by
  subst hlen
  go_enter Try.func12, Try.ntmps12
  go_wp2_with fail
  go_loop [1, 14] (fun r i => ∃ (k : Nat) (q : Int), k ≤ zs.length ∧ i = .int .i64 k ∧ r = .int .u64 q ∧ 0 ≤ q ∧ q ≤ 18446744073709551615 ∧
      Hid (Pl.fold zs s = ((Pl.fold (zs.drop k) q).1, (Pl.fold (zs.drop k) q).2 + k))) (fun _ i => zs.length - (intOf i).toNat)
  case atStart => exact ⟨0, s, Nat.zero_le _, rfl, rfl, h0, h1, by simp [Hid]⟩
  case round =>
    obtain ⟨k, q, hk, rfl, rfl, hq0, hq1, HF⟩ := hrel
    by_cases hlt : k < zs.length
    · have hck := hcell k hlt
      have hzk := hz zs[k] (List.getElem_mem _)
      by_cases hx : q < zs[k]
      · have hs := Pl.fold_stop zs k q hlt hx
        have HE : Hid (Pl.fold zs s = (q, k)) := by rw [Hid, HF.out, hs]; simp
        clear hs HF
        go_wp2_with (go_at_call 13; refine (sub_no _ _ _ (by assumption)).mono ?_; rintro e w' ⟨rfl, rfl⟩)
        go_ret2
        exact ⟨ret2 (int_eq (by rw [HE.out])) (int_eq (by rw [HE.out])), rfl⟩
      · have hs := Pl.fold_step zs k q hlt hx
        have HE : Hid (Pl.fold zs s = ((Pl.fold (zs.drop (k + 1)) (q - zs[k])).1, (Pl.fold (zs.drop (k + 1)) (q - zs[k])).2 + (k + 1))) := by
          rw [Hid, HF.out, hs]; simp; omega
        clear hs HF
        have hx' : zs[k] ≤ q := by omega
        go_wp2_with (go_at_call 13; refine (sub_yes _ _ _ (by omega) (by omega) (by omega)).mono ?_; rintro e w' ⟨rfl, rfl⟩)
        go_round
        case rel => exact ⟨k + 1, q - zs[k], by omega, by go_num, rfl, by omega, by omega, HE⟩
        case measure => simp [intOf]; omega
    · obtain rfl : zs.length = k := by omega
      have hs := Pl.fold_end zs q
      have HE : Hid (Pl.fold zs s = (q, zs.length)) := by rw [Hid, HF.out, hs]; simp
      clear hs HF
      go_wp2
      go_ret2
      exact ⟨ret2 (int_eq (by rw [HE.out])) (int_eq (by rw [HE.out])), rfl⟩

/-- The slice empty, nil or not. -/
theorem fold_none (a : Option Addr) (cap : Nat) (s : Int) (w : World) :
    Calls Try.prog 12 #[.slice a 0 cap, .int .u64 s, .func (.func 13) #[] #[]] w fun e w' =>
      e = .returned (.tuple #[.int .u64 s, .int .i64 0]) ∧ w = w' := by
  go_enter Try.func12, Try.ntmps12
  go_wp2_with fail
  refine wp_loop_rounds 1 ?_
  rw [rounds_succ]
  go_wp2
  go_ret2
  exact ⟨rfl, rfl⟩
theorem fold_any (a : Option Addr) (n cap : Nat) (zs : List Int) (s : Int) (w : World) (hl : n ≤ 1000) (hc : Ints w .u64 a n zs)
    (hz : ∀ x ∈ zs, 0 ≤ x ∧ x ≤ 18446744073709551615) (h0 : 0 ≤ s) (h1 : s ≤ 18446744073709551615) :
    Calls Try.prog 12 #[.slice a n cap, .int .u64 s, .func (.func 13) #[] #[]] w fun e w' =>
      e = .returned (.tuple #[.int .u64 (Pl.fold zs s).1, .int .i64 (Pl.fold zs s).2]) ∧ w = w' := by
  obtain ⟨hn, rfl | ⟨b, o, rfl, hcell⟩⟩ := hc
  · obtain rfl : n = 0 := hn
    exact fold_none a cap s w
  · exact fold_some b o n cap zs s w hl hn hcell hz h0 h1

set_option maxHeartbeats 400000 in
theorem split_any (a : Option Addr) (n cap : Nat) (zs : List Int) (s : Int) (w : World) (hl : n ≤ 1000) (hc : Ints w .u64 a n zs)
    (hz : ∀ x ∈ zs, 0 ≤ x ∧ x ≤ 18446744073709551615) (h0 : 0 ≤ s) (h1 : s ≤ 18446744073709551615) :
    Calls Try.prog 6 #[.int .u64 s, .slice a n cap] w fun e w' =>
      e = .returned (.tuple #[.int .i64 (Pl.fold zs s).2, .int .u64 (Pl.fold zs s).1]) ∧ w = w' := by
  have HC := fold_any a n cap zs s w hl hc hz h0 h1
  generalize Pl.fold zs s = p at HC ⊢
  have H := Lib.hid HC
  clear HC hc hz
  go_enter Try.func6, Try.ntmps6
  go_wp2_with fail
  refine H.out.mono ?_
  rintro e w' ⟨rfl, rfl⟩
  go_wp2
  go_ret2
  exact ⟨rfl, rfl⟩

set_option maxHeartbeats 400000 in
theorem refsplit_some (b off len cap : Nat) (zs : List Int) (s : Int) (w : World) (hl : len ≤ 1000) (hlen : len = zs.length) (hcell : ∀ j (h : j < zs.length), w.cell? ⟨b, off + j, none⟩ = some (.int .u64 zs[j]))
    (hz : ∀ x ∈ zs, 0 ≤ x ∧ x ≤ 18446744073709551615) (h0 : 0 ≤ s) (h1 : s ≤ 18446744073709551615) :
    Calls Try.prog 7 #[.int .u64 s, .slice (some ⟨b, off, none⟩) len cap] w fun e w' =>
      e = .returned (.tuple #[.int .i64 (Pl.fold zs s).2, .int .u64 (Pl.fold zs s).1]) ∧ w = w' := by
  subst hlen
  go_enter Try.func7, Try.ntmps7
  go_wp2_with fail
  go_loop [0, 6] (fun r i => ∃ (k : Nat) (q : Int), k ≤ zs.length ∧ i = .int .i64 k ∧ r = .int .u64 q ∧ 0 ≤ q ∧ q ≤ 18446744073709551615 ∧
      Hid (Pl.fold zs s = ((Pl.fold (zs.drop k) q).1, (Pl.fold (zs.drop k) q).2 + k))) (fun _ i => zs.length - (intOf i).toNat)
  case atStart => exact ⟨0, s, Nat.zero_le _, rfl, rfl, h0, h1, by simp [Hid]⟩
  case round =>
    obtain ⟨k, q, hk, rfl, rfl, hq0, hq1, HF⟩ := hrel
    by_cases hlt : k < zs.length
    · have hck := hcell k hlt
      have hzk := hz zs[k] (List.getElem_mem _)
      clear hcell hz
      by_cases hx : q < zs[k]
      · have hs := Pl.fold_stop zs k q hlt hx
        have HE : Hid (Pl.fold zs s = (q, k)) := by rw [Hid, HF.out, hs]; simp
        clear hs HF
        go_wp2
        go_ret2
        exact ⟨ret2 (int_eq (by rw [HE.out])) (int_eq (by rw [HE.out])), rfl⟩
      · have hs := Pl.fold_step zs k q hlt hx
        have HE : Hid (Pl.fold zs s = ((Pl.fold (zs.drop (k + 1)) (q - zs[k])).1, (Pl.fold (zs.drop (k + 1)) (q - zs[k])).2 + (k + 1))) := by
          rw [Hid, HF.out, hs]; simp; omega
        clear hs HF
        have hx' : zs[k] ≤ q := by omega
        go_wp2
        go_round
        case rel => exact ⟨k + 1, q - zs[k], by omega, by go_num, rfl, by omega, by omega, HE⟩
        case measure => simp [intOf]; omega
    · obtain rfl : zs.length = k := by omega
      have hs := Pl.fold_end zs q
      have HE : Hid (Pl.fold zs s = (q, zs.length)) := by rw [Hid, HF.out, hs]; simp
      clear hs HF hcell
      go_wp2
      go_ret2
      exact ⟨ret2 (int_eq (by rw [HE.out])) (int_eq (by rw [HE.out])), rfl⟩

set_option maxHeartbeats 400000 in
theorem refsplit_none (a : Option Addr) (cap : Nat) (s : Int) (w : World) :
    Calls Try.prog 7 #[.int .u64 s, .slice a 0 cap] w fun e w' =>
      e = .returned (.tuple #[.int .i64 0, .int .u64 s]) ∧ w = w' := by
  go_enter Try.func7, Try.ntmps7
  go_wp2_with fail
  refine wp_loop_rounds 1 ?_
  rw [rounds_succ]
  go_wp2
  go_ret2
  exact ⟨rfl, rfl⟩

theorem refsplit_any (a : Option Addr) (n cap : Nat) (zs : List Int) (s : Int) (w : World) (hl : n ≤ 1000) (hc : Ints w .u64 a n zs)
    (hz : ∀ x ∈ zs, 0 ≤ x ∧ x ≤ 18446744073709551615) (h0 : 0 ≤ s) (h1 : s ≤ 18446744073709551615) :
    Calls Try.prog 7 #[.int .u64 s, .slice a n cap] w fun e w' =>
      e = .returned (.tuple #[.int .i64 (Pl.fold zs s).2, .int .u64 (Pl.fold zs s).1]) ∧ w = w' := by
  obtain ⟨hn, rfl | ⟨b, o, rfl, hcell⟩⟩ := hc
  · obtain rfl : n = 0 := hn
    exact refsplit_none a cap s w
  · exact refsplit_some b o n cap zs s w hl hn hcell hz h0 h1

end Go.Proofs.Ytddplidjmaflkaa
