/- Chapter 17: DeleteFunc at payments; positive. -/
import Derived.Test.YtbafgipegekbcaaPtD
namespace Go.Proofs.Ytbafgipegekbcaa
open Go.RowKit
set_option linter.unusedSimpArgs false
set_option linter.unusedVariables false
set_option maxRecDepth 20000

theorem zeroP (w : World) : (zeroValue 37).run Try.prog w = .ok (.agg (Pay.list ⟨0, 0, false⟩).toArray) w := by kernel_rfl

theorem gtrans {a b c : World} {r : Option Nat} (h : a.grownBy b r) (k : b.grownBy c r) : a.grownBy c r :=
  ⟨k.os.trans h.os, k.tape.trans h.tape, k.output.trans h.output, Nat.le_trans h.size k.size, fun i hi hn => (k.block i (Nat.lt_of_lt_of_le hi h.size) hn).trans (h.block i hi hn)⟩
theorem gbelow {a b : World} (h : Below a.heap.size a b) (r : Option Nat) : a.grownBy b r := ⟨h.os, h.tape, h.output, h.size, fun k hk _ => h.block k hk⟩

/-- What DeleteFunc leaves: nothing that was there has changed but the row itself. -/
def DelPost (r : Option Nat) (w0 : World) (qs : List Pay) (e : Ending) (w' : World) : Prop :=
  ∃ A m c, e = .returned (.slice A m c) ∧ Row Pay.list w' A m (qs.filter keepB) ∧ w0.grownBy w' r

/-- While it goes: i kept so far, j looked at. -/
structure Dl (B g n cap : Nat) (w0 : World) (qs cur : List Pay) (i j : Nat) (w : World) : Prop where
  own : w.ownsRow B 37 3 (.slice (some ⟨g, 0, none⟩) n cap) n (flat Pay.list cur)
  len : cur.length = n
  tl : cur.drop j = qs.drop j
  hd : cur.take i = (qs.take j).filter keepB
  ij : i < j
  hb : w0.grownBy w (some g)

theorem Dl.call {B g n cap i j : Nat} {w0 w w' : World} {qs cur : List Pay} (h : Dl B g n cap w0 qs cur i j w) (hb : Below w.heap.size w w') : Dl B g n cap w0 qs cur i j w' :=
  ⟨own_call h.own hb, h.len, h.tl, h.hd, h.ij, gtrans h.hb (gbelow hb _)⟩
theorem Dl.at_ {B g n cap i j : Nat} {w0 w : World} {qs cur : List Pay} (h : Dl B g n cap w0 qs cur i j w) (hj : j < qs.length) (hq : qs.length = n) : w.rangeAt g (j * 3) qs[j].list := by
  have hjc : j < cur.length := by rw [h.len]; omega
  have e : cur[j] = qs[j] := by
    have h1 := congrArg (fun l => l[0]?) h.tl
    simp only [List.getElem?_drop, Nat.add_zero] at h1
    rw [List.getElem?_eq_getElem hjc, List.getElem?_eq_getElem hj] at h1
    exact Option.some.inj h1
  obtain ⟨-, h2⟩ := row_of_own Pay.len (by decide) h.own
  rcases h2 with h2 | ⟨b', o', h2, _, hr⟩
  · subst h2; simp at hjc
  · simp only [Option.some.injEq, Addr.mk.injEq] at h2
    obtain ⟨rfl, rfl, -⟩ := h2
    have := Row.elem Pay.len hr j hjc
    rw [e] at this
    simpa using this
/-- One that goes. -/
theorem Dl.drop1 {B g n cap i j : Nat} {w0 w : World} {qs cur : List Pay} (h : Dl B g n cap w0 qs cur i j w) (hj : j < qs.length) (hd : delB qs[j] = true) : Dl B g n cap w0 qs cur i (j + 1) w := by
  refine ⟨h.own, h.len, ?_, ?_, by have := h.ij; omega, h.hb⟩
  · have := congrArg (List.drop 1) h.tl
    simpa [List.drop_drop] using this
  · rw [List.take_succ_eq_append_getElem hj, List.filter_append, ← h.hd]
    simp [keepB, hd]
/-- One that stays is moved down. -/
theorem Dl.keep1 {B g n cap i j : Nat} {w0 w : World} {qs cur : List Pay} (h : Dl B g n cap w0 qs cur i j w) (hj : j < qs.length) (hq : qs.length = n) (hd : delB qs[j] = false) : Dl B g n cap w0 qs (cur.set i qs[j]) (i + 1) (j + 1) (w.setCells g (i * 3) qs[j].list) := by
  have hij := h.ij
  have hi : i < n := by omega
  obtain ⟨h1, h2⟩ := own_put Pay.len (by decide) h.own i hi qs[j]
  refine ⟨h1, by simpa using h.len, ?_, ?_, by omega, gtrans h.hb h2⟩
  · rw [List.drop_set_of_lt (by omega)]
    have := congrArg (List.drop 1) h.tl
    simpa [List.drop_drop] using this
  · rw [List.take_succ_eq_append_getElem hj, List.filter_append, ← h.hd]
    have hic : i < (cur.set i qs[j]).length := by rw [List.length_set, h.len]; exact hi
    rw [List.take_succ_eq_append_getElem hic, List.getElem_set_self, List.take_set_of_le (Nat.le_refl _)]
    simp [keepB, hd]

set_option maxHeartbeats 8000000 in
theorem delete_some {B g n cap : Nat} {w : World} {qs : List Pay} (hown : w.ownsRow B 37 3 (.slice (some ⟨g, 0, none⟩) n cap) n (flat Pay.list qs)) (hn : n ≤ 1000) :
    Calls Try.prog 24 #[.slice (some ⟨g, 0, none⟩) n cap, .func (.func 25) #[] #[]] w (DelPost (some g) w qs) := by
  have HI := Lib.hid (index_any (some ⟨g, 0, none⟩) n cap qs w (row_of_own Pay.len (by decide) hown) hn)
  have HO := Lib.hid hown
  have hq : qs.length = n := (row_of_own Pay.len (by decide) hown).1.symm
  have hcap : n ≤ cap := by
    rcases hown.2 with ⟨h2, _⟩ | ⟨g', cap', cur, hv, _, _, hc, _⟩
    · cases h2
    · simp only [Value.slice.injEq, Option.some.injEq, Addr.mk.injEq, and_true, true_and] at hv
      obtain ⟨rfl, rfl⟩ := hv
      exact hc
  have hcm : cap ≤ 9223372036854775807 := by
    rcases hown.2 with ⟨h2, _⟩ | ⟨g', cap', cur, hv, _, _, hc, hm, _⟩
    · cases h2
    · simp only [Value.slice.injEq, Option.some.injEq, Addr.mk.injEq, and_true, true_and] at hv
      obtain ⟨rfl, rfl⟩ := hv
      unfold maxLen at hm
      omega
  have HQ := Lib.hid hq
  clear hown hq
  go_enter Try.func24, Try.ntmps24
  go_wp2_with fail
  refine HI.out.mono ?_
  rintro en w1 ⟨r, rfl, hr, hb1⟩
  have HB1 := Lib.hid (gbelow hb1 (some g))
  have HO1 := Lib.hid (own_call HO.out hb1)
  clear hb1 HI HO
  rcases hr with ⟨rfl, hall⟩ | ⟨i0, hi0, rfl, hd0, hbefore⟩
  · have HA : Hid (qs.filter keepB = qs) := by
      show _ = _
      rw [List.filter_eq_self]
      intro p hp
      obtain ⟨i, hi, rfl⟩ := List.getElem_of_mem hp
      simp [keepB, hall i hi]
    clear hall
    go_wp2_with fail
    go_ret
    exact ⟨_, n, cap, rfl, by rw [HA.out]; exact row_of_own Pay.len (by decide) HO1.out, HB1.out⟩
  · have hin : i0 < n := by have := HQ.out; omega
    have HD0 : Hid (Dl B g n cap w qs qs i0 (i0 + 1) w1) := by
      refine ⟨HO1.out, HQ.out, rfl, ?_, by omega, HB1.out⟩
      rw [List.take_succ_eq_append_getElem hi0, List.filter_append]
      have h1 : (qs.take i0).filter keepB = qs.take i0 := by
        rw [List.filter_eq_self]
        intro p hp
        obtain ⟨i, hi, rfl⟩ := List.getElem_of_mem hp
        rw [List.length_take] at hi
        rw [List.getElem_take]
        simp [keepB, hbefore i (by omega)]
      rw [h1]
      simp [keepB, hd0]
    have hne : ((i0 : Int) == -1) = false := by rw [beq_eq_false_iff_ne]; omega
    clear hbefore hd0 HO1 HB1 hi0
    go_wp2_with fail
    go_loopw [5, 6] (fun vi vj wr => ∃ (i j : Nat) (cur : List Pay), j ≤ n ∧ i < n ∧ vi = .int .i64 i ∧ vj = .int .i64 j ∧ Hid (Dl B g n cap w qs cur i j wr)) (fun _ vj _ => n - (intOf vj).toNat)
    case atStart => exact ⟨i0, i0 + 1, qs, by omega, hin, rfl, by go_num, HD0⟩
    case round =>
      clear hne HD0
      obtain ⟨i, j, cur, hjn, hin', rfl, rfl, HD⟩ := hrel
      by_cases hlt : j < n
      · have hjl : j < qs.length := by have := HQ.out; omega
        have HC := Lib.hid (HD.out.at_ hjl HQ.out)
        have HP := Lib.hid (fun w => pos1_any qs[j] w)
        obtain ⟨p, hp⟩ : ∃ p, qs[j] = p := ⟨_, rfl⟩
        rw [hp] at HC HP
        have HPE := Lib.hid hp
        clear hp
        have hj1 : (j : Int) < (n : Int) := by omega
        have hj0 : (0 : Int) ≤ (j : Int) := by omega
        have hij := HD.out.ij
        go_wp2_with (first | ((with_reducible show wpList _ _ _ (⟨some 25, _, _, _, _, _⟩ :: _) _ _); refine halted ?_) | fail)
        unfold Halted
        refine wpList_load_part p.list 37 (.tmp 24) rfl rfl rfl HC.out _ Try.underlying37 rfl p.infoL ?_
        go_wp2_with (first | ((with_reducible show wpList _ _ _ (⟨none, _, _, _, _, _⟩ :: _) _ _); refine halted ?_) | fail)
        unfold Halted
        refine wpList_store_last 37 (.tmp 7) (.tmp 25) p.list.toArray rfl rfl rfl rfl p.info rfl (all_oneCell_toArray p.one) ?_
        have HD1 := Lib.hid (HD.out.call ((Below.refl _ _).alloc (Nat.le_refl _) (.cells p.list.toArray 37)))
        have HN1 := Lib.hid (Nb.new wr (.cells p.list.toArray 37))
        generalize hwn : wr.alloc (.cells p.list.toArray 37) = w2 at HD1 HN1 ⊢
        clear hwn HC HD
        go_wp2_with (first | ((with_reducible show wpList _ _ _ (⟨some 27, _, _, _, _, _⟩ :: _) _ _); refine halted ?_) | fail)
        unfold Halted
        refine wpList_load_nb 37 (.tmp 7) rfl rfl rfl HN1.out _ Try.underlying37 rfl p.info ?_
        go_wp2_with fail
        refine (HP.out _).mono ?_
        rintro en w3 ⟨rfl, hb3⟩
        have HD2 := Lib.hid (HD1.out.call hb3)
        have HN2 := Lib.hid (HN1.out.call hb3)
        clear hb3 HD1 HN1 HP
        cases hd : delB p
        · have HD3 : Hid (Dl B g n cap w qs (cur.set i p) (i + 1) (j + 1) (w3.setCells g (i * 3) p.list)) := by
            have := HD2.out.keep1 hjl HQ.out (by rw [HPE.out]; exact hd)
            rwa [HPE.out] at this
          have HT := Lib.hid (own_there Pay.len (by decide) HD2.out.own i hin')
          have hi1 : (i : Int) < (n : Int) := by omega
          have hi0 : (0 : Int) ≤ (i : Int) := by omega
          clear hd
          go_wp2_with (first | ((with_reducible show wpList _ _ _ (⟨some 32, _, _, _, _, _⟩ :: _) _ _); refine halted ?_) | fail)
          unfold Halted
          refine wpList_load_nb 37 (.tmp 7) rfl rfl rfl HN2.out _ Try.underlying37 rfl p.info ?_
          go_wp2_with (first | ((with_reducible show wpList _ _ _ (⟨none, _, _, _, _, _⟩ :: _) _ _); refine halted ?_) | fail)
          unfold Halted
          refine wpList_store_mid rfl 37 (.tmp 33) (.tmp 32) rfl g (i * 3) p.list.toArray rfl rfl HT.out p.info (all_oneCell_toArray p.one) ?_
          generalize hwn : World.setCells w3 _ _ _ = w4 at HD3 ⊢
          clear hwn HD2 HN2 HT
          go_wp2_with fail
          go_roundw
          case rel => exact ⟨i + 1, j + 1, _, by omega, by omega, by go_num, by go_num, HD3⟩
          case measure => simp [intOf]; omega
        · have HD3 := Lib.hid (HD2.out.drop1 hjl (by rw [HPE.out]; exact hd))
          clear hd HD2 HN2
          go_wp2_with fail
          go_roundw
          case rel => exact ⟨i, j + 1, cur, by omega, hin', rfl, by go_num, HD3⟩
          case measure => simp [intOf]; omega
      · obtain rfl : n = j := by omega
        have hT : wr.there g (i * 3) ((n - i) * 3) := by
          intro m hm
          have hlt2 : i * 3 + m < n * 3 := by rw [Nat.sub_mul] at hm; omega
          refine ⟨?_, HD.out.own.frozenAt _⟩
          rw [HD.out.own.cellAt _ hlt2, List.getElem?_eq_getElem (by rw [HD.out.own.1]; exact hlt2)]
          rfl
        have HT := Lib.hid hT
        clear hT
        have hi1 : (i : Int) ≤ (n : Int) := by omega
        have hi0 : (0 : Int) ≤ (i : Int) := by omega
        have hi2 : (i : Int) ≤ (cap : Int) := by omega
        have hi3 : ¬ cap = i := by omega
        go_wp2_with (first | ((with_reducible show wpList _ _ _ (⟨none, _, _, _, _, _⟩ :: _) _ _); refine halted ?_) | fail)
        unfold Halted
        refine wpList_clear_row (x := .tmp 38) (z := .agg (Pay.list ⟨0, 0, false⟩).toArray) (k := 3) rfl rfl Try.underlying29 zeroP rfl (all_oneCell_toArray (Pay.one ⟨0, 0, false⟩)) rfl (by omega) HT.out ?_
        intro zs hzs
        have hset := own_setCells zs (i * 3) HD.out.own
        have hpre := own_prefix (m := i) hset.1 (by omega)
        rw [setL_take, flat_take Pay.len, HD.out.hd, List.take_of_length_le (by have := HQ.out; omega)] at hpre
        have HF := Lib.hid (row_of_own Pay.len (by decide) hpre)
        have HBF := Lib.hid (gtrans HD.out.hb hset.2)
        generalize hwn : World.setCells wr _ _ _ = w5 at HF HBF ⊢
        clear hwn hset hpre HD HT hzs
        go_wp2_with fail
        go_ret
        exact ⟨_, i, cap, rfl, HF.out, HBF.out⟩

set_option maxHeartbeats 2000000 in
theorem delete_none {w : World} (A : Option Addr) (cap : Nat) (r : Option Nat) :
    Calls Try.prog 24 #[.slice A 0 cap, .func (.func 25) #[] #[]] w (DelPost r w []) := by
  have HI := Lib.hid (index_none A cap w)
  go_enter Try.func24, Try.ntmps24
  go_wp2_with fail
  refine HI.out.mono ?_
  rintro en w1 ⟨rr, rfl, hr, hb1⟩
  have HB1 := Lib.hid (gbelow hb1 r)
  rcases hr with ⟨rfl, hall⟩ | ⟨i0, hi0, rfl, hd0, hbefore⟩
  · clear hall hb1
    go_wp2_with fail
    go_ret
    exact ⟨A, 0, cap, rfl, ⟨rfl, .inl rfl⟩, HB1.out⟩
  · simp at hi0

theorem delete_any {B n : Nat} {v : Value} {w : World} {qs : List Pay} (hown : w.ownsRow B 37 3 v n (flat Pay.list qs)) (hn : n ≤ 1000) :
    Calls Try.prog 24 #[v, .func (.func 25) #[] #[]] w (DelPost v.ownBlock w qs) := by
  obtain ⟨A, cap, rfl⟩ := own_slice hown
  have hr := row_of_own Pay.len (by decide) hown
  by_cases h0 : n = 0
  · subst h0
    have : qs = [] := List.eq_nil_of_length_eq_zero hr.1.symm
    subst this
    exact delete_none A cap _
  · obtain ⟨g, cap', hv, _, _, _⟩ := own_form hown (by omega)
    simp only [Value.slice.injEq, true_and] at hv
    obtain ⟨rfl, rfl⟩ := hv
    exact delete_some hown hn

set_option maxHeartbeats 1000000 in
theorem positive_any {B n : Nat} {v : Value} {w : World} {qs : List Pay} (hown : w.ownsRow B 37 3 v n (flat Pay.list qs)) (hn : n ≤ 1000) :
    Calls Try.prog 19 #[v] w (DelPost v.ownBlock w qs) := by
  obtain ⟨A, cap, rfl⟩ := own_slice hown
  have HD := Lib.hid (delete_any hown hn)
  clear hown
  go_enter Try.func19, Try.ntmps19
  go_wp2_with fail
  refine HD.out.mono ?_
  rintro en w1 ⟨A', m, c, rfl, hr, hb⟩
  have HR := Lib.hid hr
  have HB := Lib.hid hb
  clear hr hb
  go_wp2_with fail
  go_ret
  exact ⟨A', m, c, rfl, HR.out, HB.out⟩

end Go.Proofs.Ytbafgipegekbcaa
