/- Chapter 18: the reference's Later. -/
import Derived.Test.YtmihnoiofbfbhaaDlB
namespace Go.Proofs.Ytmihnoiofbfbhaa
open Go.RowKit

theorem maxEpoch_keeps (w : World) : Calls Try.prog 47 #[] w fun e w' => e = .returned (.int .i64 1099511627776) ∧ w = w' := (maxEpoch_any w).mono fun _ _ h => ⟨h.1, h.2.symm⟩

set_option maxHeartbeats 400000 in
theorem reflater_out (e : Int) (A : Option Addr) (n cap : Nat) (l : List Int) (w : World) (h : e < 0 ∨ 1099511627776 < e) :
    Calls Try.prog 30 #[.int .i64 e, .slice A n cap] w (Ans (Pl.lat (e :: l) 0) w) := by
  have HE : Hid (Pl.lat (e :: l) 0 = none) := by rw [Hid, Pl.lat, if_pos (by omega)]
  generalize Pl.lat (e :: l) 0 = o at HE ⊢
  by_cases h1 : e < 0
  · clear h
    go_enter Try.func30, Try.ntmps30
    go_wp2_with fail
    go_ret2
    exact ⟨by rw [HE.out]; rfl, Below.refl _ _⟩
  · have h2 : 1099511627776 < e := by omega
    have h3 : 0 ≤ e := by omega
    clear h h1
    go_enter Try.func30, Try.ntmps30
    go_wp2_with (go_at_call 47; refine (maxEpoch_keeps _).mono ?_; rintro e w' ⟨rfl, rfl⟩)
    go_ret2
    exact ⟨by rw [HE.out]; rfl, Below.refl _ _⟩

set_option maxHeartbeats 800000 in
theorem reflater_some (e : Int) (b off n cap : Nat) (l : List Int) (w : World) (h0 : 0 ≤ e) (h1 : e ≤ 1099511627776) (hn : n = l.length) (hl : n ≤ 1000)
    (hcell : ∀ j (h : j < l.length), w.cell? ⟨b, off + j, none⟩ = some (.int .i64 l[j])) :
    Calls Try.prog 30 #[.int .i64 e, .slice (some ⟨b, off, none⟩) n cap] w (Ans (Pl.lat (e :: l) 0) w) := by
  have HE0 : Hid (Pl.lat (e :: l) 0 = Pl.lat l e) := by rw [Hid, Pl.lat, if_neg (by omega)]; simp
  have HN := Lib.hid hn
  have HC := Lib.hid hcell
  have h2 : ¬ e < 0 := by omega
  clear hn hcell
  go_enter Try.func30, Try.ntmps30
  go_wp2_with (go_at_call 47; refine (maxEpoch_keeps _).mono ?_; rintro e w' ⟨rfl, rfl⟩)
  go_loopw [0, 6] (fun r i wr => ∃ (k : Nat) (q : Int), k ≤ n ∧ i = .int .i64 k ∧ r = .int .i64 q ∧ 0 ≤ q ∧ q ≤ 1099511627776 ∧ Hid (Pl.lat (e :: l) 0 = Pl.lat (l.drop k) q) ∧ Hid (∃ m, wr = w.drewN m)) (fun _ i _ => n - (intOf i).toNat)
  case atStart => exact ⟨0, e, by omega, rfl, rfl, h0, h1, HE0, 0, rfl⟩
  case round =>
    obtain ⟨k, q, hk, rfl, rfl, hq0, hq1, HF, HD⟩ := hrel
    clear h0 h1 h2
    by_cases hlt : k < l.length
    · have hck : wr.cell? ⟨b, off + k, none⟩ = some (.int .i64 l[k]) := by obtain ⟨m, rfl⟩ := HD.out; exact HC.out k hlt
      have HST := Lib.hid (Pl.lat_stop l k q hlt)
      have HSP := Lib.hid (Pl.lat_step l k q hlt)
      generalize l[k] = x at hck HST HSP
      have hkn : k < n := by have := HN.out; omega
      have hi1 : (k : Int) < (n : Int) := by omega
      have hw1 : IntKind.i64.wrap (1099511627776 - q) = 1099511627776 - q := IntWalk.i64_in _ (by omega)
      clear hlt
      by_cases hx : x < 0
      · have HE : Hid (Pl.lat (e :: l) 0 = none) := by rw [Hid, HF.out]; exact HST.out (.inl hx)
        have hd : decide (x < 0) = true := by simpa using hx
        go_wp2_with fail
        go_quiet ((go_at_call 47; exact Calls.quiet_of_same (maxEpoch_any _)))
        go_wp2
        go_ret2
        refine ⟨by rw [HE.out]; rfl, ?_⟩
        obtain ⟨m, rfl⟩ := HD.out
        exact (drewN_below w m).trans ((drewN_below _ _).mono (by simp))
      · have hd : decide (x < 0) = false := by simpa using hx
        have hx0 : 0 ≤ x := by omega
        clear hx
        by_cases hx : 1099511627776 - q < x
        · have HE : Hid (Pl.lat (e :: l) 0 = none) := by rw [Hid, HF.out]; exact HST.out (.inr hx)
          have hd2 : decide (1099511627776 - q < x) = true := by simpa using hx
          go_wp2_with fail
          go_quiet ((go_at_call 47; exact Calls.quiet_of_same (maxEpoch_any _)))
          go_wp2
          go_ret2
          refine ⟨by rw [HE.out]; rfl, ?_⟩
          obtain ⟨m, rfl⟩ := HD.out
          exact (drewN_below w m).trans ((drewN_below _ _).mono (by simp))
        · have hx1 : x ≤ 1099511627776 - q := by omega
          have hd2 : decide (1099511627776 - q < x) = false := by simpa using hx
          have HE : Hid (Pl.lat (e :: l) 0 = Pl.lat (l.drop (k + 1)) (q + x)) := by rw [Hid, HF.out]; exact HSP.out hx0 hx1
          clear hx
          go_wp2_with fail
          go_quiet ((go_at_call 47; exact Calls.quiet_of_same (maxEpoch_any _)))
          clear hw1 hd hd2
          go_wp2
          go_roundw
          case rel => exact ⟨k + 1, q + x, by omega, by go_num, rfl, by omega, by omega, HE, by obtain ⟨m, rfl⟩ := HD.out; exact ⟨_, World.drewN_drewN _ _ _⟩⟩
          case measure => simp [intOf]; omega
    · have hkl : k = l.length := by have := HN.out; omega
      have HE : Hid (Pl.lat (e :: l) 0 = some q) := by rw [Hid, HF.out, hkl]; exact Pl.lat_end l q
      have hkn : k = n := by have := HN.out; omega
      subst hkn
      clear hkl hlt
      go_wp2
      go_ret2
      refine ⟨by rw [HE.out]; rfl, ?_⟩
      obtain ⟨m, rfl⟩ := HD.out
      exact drewN_below w m

end Go.Proofs.Ytmihnoiofbfbhaa
