/- Chapter 16: the reference's sums over a list of validators. -/
import Derived.Test.YtgmbgomlicamdaaMgK
namespace Go.Proofs.Ytgmbgomlicamdaa
open Go.RowKit Go.Maps
set_option linter.unusedSimpArgs false
set_option linter.unusedVariables false
set_option maxRecDepth 20000

theorem Try.infoU : (Try.prog.info? 22).map (fun i => (i.zero, i.size, i.bytes)) = some (some (.int .u64 0), 1, 8) := by kernel_rfl

theorem live_any (s : Int) (w : World) : Calls Try.prog 28 #[.int .i64 s] w fun e w' => e = .returned (.bool (s == 2 || s == 3)) ∧ w = w' := by
  by_cases h : s = 2
  · subst h
    go_enter Try.func28, Try.ntmps28
    go_wp2
    go_ret
    exact ⟨rfl, rfl⟩
  · have h1 : (s == 2) = false := by simpa using h
    go_enter Try.func28, Try.ntmps28
    go_wp2
    go_ret
    exact ⟨ret1 (bool_eq (by simp [h1])), rfl⟩

def BalPost (n : Nat) (vs : List Val) (w : World) (e : Ending) (w' : World) : Prop :=
  ∃ v, e = .returned v ∧ w'.ownsRow w.heap.size 22 1 v n ((vs.map balOf).map (Value.int .u64)) ∧ Below w.heap.size w w'

set_option maxHeartbeats 2000000 in
theorem balances_some (b o n cap : Nat) (vs : List Val) (w : World) (hr : w.rangeAt b o (flat Val.list vs)) (hbl : b < w.heap.size) (hlen : n = vs.length) (hn : n ≤ 100000) :
    Calls Try.prog 26 #[.slice (some ⟨b, o, none⟩) n cap] w (BalPost n vs w) := by
  have HR := Lib.hid hr
  have HL := Lib.hid hlen
  clear hr hlen
  go_enter Try.func26, Try.ntmps26
  go_wp2_with fail
  go_loopg [3, 4] n (fun k v i wr => ∃ j : Nat, j + k = n ∧ i = .int .i64 j ∧ Hid (wr.ownsRow w.heap.size 22 1 v j (((vs.take j).map balOf).map (Value.int .u64))) ∧ Hid (Below w.heap.size w wr))
  case atStart => exact ⟨0, by omega, rfl, by simpa [Hid] using World.ownsRow_nil w _ _ _, Below.refl _ _⟩
  case round =>
    obtain ⟨j, hj, rfl, HO, HB⟩ := hrel
    have HJ := Lib.hid hj
    clear hj
    by_cases hlt : j < n
    · have hjl : j < vs.length := by have := HL.out; omega
      have q0 : wr.cell? ⟨b, o + j * 7, none⟩ = some (.int .u64 vs[j].bal) := (HB.out.cell (p := ⟨b, o + j * 7, none⟩) hbl).trans (Row.elem Val.len HR.out j hjl 0 _ rfl)
      have HT := Lib.hid (List.take_succ_eq_append_getElem hjl)
      have hsz : w.heap.size ≤ wr.heap.size := HB.out.size
      have hjn : (j : Int) < (n : Int) := by omega
      have hj0 : (0 : Int) ≤ (j : Int) := by omega
      obtain ⟨x, hx⟩ : ∃ x, vs[j].bal = x := ⟨_, rfl⟩
      rw [hx] at q0
      have HX := Lib.hid hx
      clear hx
      go_wp2_with (first | (at_builtin; go_must (refine wpList_append1 (w := wr) 60 HO.out (.int .u64 0) Try.underlying60 Try.infoU rfl (by omega) (by omega) hsz rfl rfl rfl rfl rfl ?_)) | fail)
      intro v' w' hown' hg
      have HB' := Lib.hid (HB.out.grown hg hsz (fun k hk => (HO.out.lt k hk).1))
      have HO' : Hid (w'.ownsRow w.heap.size 22 1 v' (j + 1) (((vs.take (j + 1)).map balOf).map (Value.int .u64))) := by
        rw [Hid, HT.out, List.map_append, List.map_append]
        simpa [balOf, HX.out] using hown'
      clear hown' hg
      go_wp2_with fail
      go_roundg (n - (j + 1))
      case measure => have := HJ.out; omega
      case rel => exact ⟨j + 1, by have := HJ.out; omega, by go_num, HO', HB'⟩
    · obtain rfl : j = n := by have := HJ.out; omega
      go_wp2_with fail
      go_ret
      exact ⟨_, rfl, by have h := HO.out; rwa [List.take_of_length_le (by have := HL.out; omega)] at h, HB.out⟩

set_option maxHeartbeats 2000000 in
theorem balances_none (A : Option Addr) (cap : Nat) (w : World) : Calls Try.prog 26 #[.slice A 0 cap] w (BalPost 0 [] w) := by
  go_enter Try.func26, Try.ntmps26
  go_wp2_with fail
  refine wp_loop_rounds 1 ?_
  rw [rounds_succ]
  go_wp2_with fail
  go_ret
  exact ⟨_, rfl, by simpa using World.ownsRow_nil w _ _ _, Below.refl _ _⟩

theorem balances_any (A : Option Addr) (n cap : Nat) (vs : List Val) (w : World) (h : Vals w A n vs) (hn : n ≤ 100000) : Calls Try.prog 26 #[.slice A n cap] w (BalPost n vs w) := by
  obtain ⟨h1, h2 | ⟨b, o, rfl, hb, hr⟩⟩ := h
  · subst h2
    have hn0 : n = 0 := by simpa using h1
    subst hn0
    exact balances_none A cap w
  · exact balances_some b o n cap vs w hr hb h1 hn

theorem ints_own {w : World} {base e n : Nat} {k : IntKind} {a : Option Addr} {m c : Nat} {zs : List Int} (h : w.ownsRow base e 1 (.slice a m c) n (zs.map (Value.int k))) : Ints w k a n zs := by
  obtain ⟨h1, h2⟩ := h
  rw [List.length_map, Nat.mul_one] at h1
  refine ⟨h1.symm, ?_⟩
  rcases h2 with ⟨_, h2⟩ | ⟨g, cap, cur, hv, hb, hg, hc, _, hs, ht⟩
  · left; exact List.eq_nil_of_length_eq_zero (by omega)
  · right
    simp only [Value.slice.injEq] at hv
    obtain ⟨rfl, rfl, rfl⟩ := hv
    refine ⟨g, 0, rfl, fun j hj => ?_⟩
    rw [cell_of_row w g _ cur e (0, 0) hg, Nat.zero_add]
    have : (zs.map (Value.int k))[j]? = some (.int k zs[j]) := by simp [hj]
    rw [← ht, List.getElem?_take] at this
    split at this
    · simpa using this
    · cases this

theorem bals_fit {vs : List Val} (h : AllOk vs) : ∀ x ∈ vs.map balOf, 0 ≤ x ∧ x ≤ 18446744073709551615 := by
  intro x hx
  obtain ⟨v, hv, rfl⟩ := List.mem_map.1 hx
  exact h v hv

def fitsB (vs : List Val) : Bool := decide ((vs.map balOf).sum ≤ 18446744073709551615)

set_option maxHeartbeats 2000000 in
theorem fits_any (A : Option Addr) (n cap : Nat) (vs : List Val) (w : World) (h : Vals w A n vs) (hn : n ≤ 100000) (hok : AllOk vs) :
    Calls Try.prog 16 #[.slice A n cap] w fun e w' => e = .returned (.bool (fitsB vs)) ∧ Below w.heap.size w w' := by
  have HB := Lib.hid (balances_any A n cap vs w h hn)
  have HZ := Lib.hid (bals_fit hok)
  clear h hok
  by_cases hs : (vs.map balOf).sum ≤ 18446744073709551615
  · have hf : fitsB vs = true := by unfold fitsB; simpa using hs
    rw [hf]
    have HS := Lib.hid hs
    clear hs hf
    go_enter Try.func16, Try.ntmps16
    go_wp2_with fail
    refine HB.out.mono ?_
    rintro e w1 ⟨v, rfl, hown, hb⟩
    obtain ⟨a, c, rfl⟩ := own_slice hown
    have HI := Lib.hid (ints_own hown)
    have HB1 := Lib.hid hb
    clear hown hb
    go_wp2_with fail
    refine (radd_fits _ _ _ _ _ (by omega) HI.out HZ.out HS.out).mono ?_
    rintro e w2 ⟨rfl, m, rfl⟩
    go_wp2_with fail
    go_ret
    exact ⟨rfl, below_drewN HB1.out m⟩
  · have hf : fitsB vs = false := by unfold fitsB; simpa using hs
    rw [hf]
    have HS := Lib.hid hs
    clear hs hf
    go_enter Try.func16, Try.ntmps16
    go_wp2_with fail
    refine HB.out.mono ?_
    rintro e w1 ⟨v, rfl, hown, hb⟩
    obtain ⟨a, c, rfl⟩ := own_slice hown
    have HI := Lib.hid (ints_own hown)
    have HB1 := Lib.hid hb
    clear hown hb
    go_wp2_with fail
    refine (radd_over _ _ _ _ _ (by omega) HI.out HZ.out (by have := HS.out; omega)).mono ?_
    rintro e w2 ⟨rfl, m, rfl⟩
    go_wp2_with fail
    go_ret
    exact ⟨rfl, below_drewN HB1.out m⟩

set_option maxHeartbeats 2000000 in
theorem total_any (A : Option Addr) (n cap : Nat) (vs : List Val) (w : World) (h : Vals w A n vs) (hn : n ≤ 100000) (hok : AllOk vs) (hs : (vs.map balOf).sum ≤ 18446744073709551615) :
    Calls Try.prog 18 #[.slice A n cap] w fun e w' => e = .returned (.int .u64 (vs.map balOf).sum) ∧ Below w.heap.size w w' := by
  have HB := Lib.hid (balances_any A n cap vs w h hn)
  have HZ := Lib.hid (bals_fit hok)
  have HS := Lib.hid hs
  clear h hok hs
  go_enter Try.func18, Try.ntmps18
  go_wp2_with fail
  refine HB.out.mono ?_
  rintro e w1 ⟨v, rfl, hown, hb⟩
  obtain ⟨a, c, rfl⟩ := own_slice hown
  have HI := Lib.hid (ints_own hown)
  have HB1 := Lib.hid hb
  clear hown hb
  go_wp2_with fail
  refine (radd_fits _ _ _ _ _ (by omega) HI.out HZ.out HS.out).mono ?_
  rintro e w2 ⟨rfl, m, rfl⟩
  go_wp2_with fail
  go_ret
  exact ⟨rfl, below_drewN HB1.out m⟩

theorem act_le (vs : List Val) (h : AllOk vs) : 0 ≤ (vs.map actOf).sum ∧ (vs.map actOf).sum ≤ (vs.map balOf).sum := by
  induction vs with
  | nil => simp
  | cons v t ih =>
    have h1 := h v (by simp)
    have h2 := ih (fun x hx => h x (by simp [hx]))
    simp only [List.map_cons, List.sum_cons]
    have h3 : 0 ≤ actOf v ∧ actOf v ≤ balOf v := by
      have := h1.1
      unfold actOf balOf
      split <;> omega
    omega
theorem act_take (vs : List Val) (h : AllOk vs) (j : Nat) : (((vs.take j).map actOf).sum) ≤ (vs.map balOf).sum ∧ 0 ≤ ((vs.take j).map actOf).sum := by
  have hA : AllOk (vs.take j) := fun x hx => h x (List.mem_of_mem_take hx)
  have h1 := act_le _ hA
  have h2 := Pl.sum_take_le (vs.map balOf) j (fun x hx => by obtain ⟨v, hv, rfl⟩ := List.mem_map.1 hx; exact (h v hv).1)
  rw [← List.map_take] at h2
  omega

set_option maxHeartbeats 4000000 in
theorem active_some (b o n cap : Nat) (vs : List Val) (w : World) (hr : w.rangeAt b o (flat Val.list vs)) (hlen : n = vs.length) (hn : n ≤ 100000) (hok : AllOk vs) (hs : (vs.map balOf).sum ≤ 18446744073709551615) :
    Calls Try.prog 19 #[.slice (some ⟨b, o, none⟩) n cap] w fun e w' => e = .returned (.int .u64 (vs.map actOf).sum) ∧ w = w' := by
  have HR := Lib.hid hr
  have HL := Lib.hid hlen
  have HT := Lib.hid (act_take vs hok)
  have HS := Lib.hid hs
  have HOK := Lib.hid hok
  clear hr hlen hok hs
  go_enter Try.func19, Try.ntmps19
  go_wp2_with fail
  go_loop [3, 4] (fun r i => ∃ (k : Nat) (q : Int), k ≤ n ∧ i = .int .i64 k ∧ r = .int .u64 q ∧ 0 ≤ q ∧ q ≤ 18446744073709551615 ∧ Hid (q = ((vs.take k).map actOf).sum)) (fun _ i => n - (intOf i).toNat)
  case atStart => exact ⟨0, 0, Nat.zero_le _, rfl, rfl, by omega, by omega, by simp [Hid]⟩
  case round =>
    obtain ⟨j, q, hk, rfl, rfl, hq0, hq1, HF⟩ := hrel
    by_cases hlt : j < n
    · have hjl : j < vs.length := by have := HL.out; omega
      have q0 : w.cell? ⟨b, o + j * 7, none⟩ = some (.int .u64 vs[j].bal) := Row.elem Val.len HR.out j hjl 0 _ rfl
      have q1 : w.cell? ⟨b, o + j * 7 + 1, none⟩ = some (.int .i64 vs[j].st) := Row.elem Val.len HR.out j hjl 1 _ rfl
      have hjn : (j : Int) < (n : Int) := by omega
      have hj0 : (0 : Int) ≤ (j : Int) := by omega
      have hbd := HT.out (j + 1)
      have hstep : ((vs.take (j + 1)).map actOf).sum = q + actOf vs[j] := by
        rw [List.take_succ_eq_append_getElem hjl, List.map_append, List.sum_append, ← HF.out]; simp
      have hb0 := (HOK.out _ (List.getElem_mem hjl)).1
      have hss := HS.out
      rw [hstep] at hbd
      have HST := Lib.hid hstep
      have hx : actOf vs[j] = if vs[j].st = 2 ∨ vs[j].st = 3 then vs[j].bal else 0 := rfl
      obtain ⟨x, hxe⟩ : ∃ x, vs[j].bal = x := ⟨_, rfl⟩
      obtain ⟨st, hst⟩ : ∃ st, vs[j].st = st := ⟨_, rfl⟩
      rw [hxe] at q0 hb0
      rw [hst] at q1
      rw [hxe, hst] at hx
      clear hxe hstep
      by_cases hl : st = 2 ∨ st = 3
      · rw [if_pos hl] at hx
        rw [hx] at hbd HST
        have hlb : (st == 2 || st == 3) = true := by simpa using hl
        have hq2 : q + x ≤ 18446744073709551615 := by omega
        have hq3 : 0 ≤ q + x := by omega
        have hw : IntKind.u64.wrap (q + x) = q + x := IntWalk.u64_in _ (by omega)
        have HLv := Lib.hid (fun w => live_any st w)
        rw [hlb] at HLv
        clear hl hlb hx hbd hss hst
        go_wp2_with (go_at_call 28; refine (HLv.out _).mono ?_; rintro e w' ⟨rfl, rfl⟩)
        go_round
        case rel => exact ⟨j + 1, q + x, by omega, by go_num, rfl, hq3, hq2, by rw [Hid, HST.out]⟩
        case measure => simp [intOf]; omega
      · rw [if_neg hl] at hx
        rw [hx] at HST
        have hlb : (st == 2 || st == 3) = false := by
          rw [Bool.or_eq_false_iff, beq_eq_false_iff_ne, beq_eq_false_iff_ne]
          exact ⟨fun h => hl (.inl h), fun h => hl (.inr h)⟩
        have HLv := Lib.hid (fun w => live_any st w)
        rw [hlb] at HLv
        clear hl hlb hx hbd hss hst
        go_wp2_with (go_at_call 28; refine (HLv.out _).mono ?_; rintro e w' ⟨rfl, rfl⟩)
        go_round
        case rel => exact ⟨j + 1, q, by omega, by go_num, rfl, hq0, hq1, by rw [Hid, HST.out]; omega⟩
        case measure => simp [intOf]; omega
    · obtain rfl : n = j := by omega
      have H5 : Hid (q = (vs.map actOf).sum) := by have := HF.out; rwa [List.take_of_length_le (by have := HL.out; omega)] at this
      clear HF
      go_wp2_with fail
      go_ret
      exact ⟨ret1 (int_eq H5.out), rfl⟩

set_option maxHeartbeats 2000000 in
theorem active_none (A : Option Addr) (cap : Nat) (w : World) : Calls Try.prog 19 #[.slice A 0 cap] w fun e w' => e = .returned (.int .u64 0) ∧ w = w' := by
  go_enter Try.func19, Try.ntmps19
  go_wp2_with fail
  refine wp_loop_rounds 1 ?_
  rw [rounds_succ]
  go_wp2_with fail
  go_ret
  exact ⟨rfl, rfl⟩

theorem active_any (A : Option Addr) (n cap : Nat) (vs : List Val) (w : World) (h : Vals w A n vs) (hn : n ≤ 100000) (hok : AllOk vs) (hs : (vs.map balOf).sum ≤ 18446744073709551615) :
    Calls Try.prog 19 #[.slice A n cap] w fun e w' => e = .returned (.int .u64 (vs.map actOf).sum) ∧ Below w.heap.size w w' := by
  obtain ⟨h1, h2 | ⟨b, o, rfl, hb, hr⟩⟩ := h
  · subst h2
    have hn0 : n = 0 := by simpa using h1
    subst hn0
    exact (active_none A cap w).mono fun e w' h => ⟨h.1, h.2 ▸ Below.refl _ _⟩
  · exact (active_some b o n cap vs w hr h1 hn hok hs).mono fun e w' h => ⟨h.1, h.2 ▸ Below.refl _ _⟩

end Go.Proofs.Ytgmbgomlicamdaa
