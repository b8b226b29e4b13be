/- Chapter 17: the reference's Step. -/
import Derived.Test.YtbafgipegekbcaaPtL
import Derived.Test.YtbafgipegekbcaaPut
namespace Go.Proofs.Ytbafgipegekbcaa
open Go.RowKit Go.Maps
set_option linter.unusedSimpArgs false
set_option linter.unusedVariables false
set_option linter.unnecessarySimpa false
set_option maxRecDepth 20000

/-- At the head of a round of the reference. -/
structure RS (B p : Nat) (w0 : World) (c : Cfg) (n : Nat) (us : List Val) (Ao : Option Addr) (vp : Value) (qs : List Pay) (w : World) : Prop where
  hc : CfgAt w p c
  hb : Below B w0 w
  ro : Row Val.list w Ao n us
  op : w.ownsRow B 37 3 vp qs.length (flat Pay.list qs)
  l : B ≤ p
theorem RS.call {B p n : Nat} {w0 w w' : World} {c : Cfg} {us : List Val} {Ao : Option Addr} {vp : Value} {qs : List Pay} (h : RS B p w0 c n us Ao vp qs w) (hb : Below w.heap.size w w') : RS B p w0 c n us Ao vp qs w' :=
  ⟨h.hc.call hb, h.hb.trans (hb.mono (by have := h.hc.lt; have := h.l; omega)), h.ro.call hb, own_call h.op hb, h.l⟩
/-- A block of the round's own is written. -/
theorem RS.setRow {B p n g : Nat} {w0 w : World} {c : Cfg} {us : List Val} {Ao : Option Addr} {vp : Value} {qs : List Pay} {x : Val} (h : RS B p w0 c n us Ao vp qs w) (cs : Array Value) (hg : ValAt w g x) (hB : B ≤ g) (hp : p ≠ g) (ha : ∀ ad, Ao = some ad → ad.block ≠ g) :
    RS B p w0 c n us Ao vp qs (w.setRow g cs) :=
  ⟨(setRow_other w g p cs hp).trans h.hc, below_setRow h.hb hB _, h.ro.keep (by simp [World.setRow]) (fun ad h1 _ => setRow_other w g _ cs (ha ad h1)), own_setRow h.op cs (own_nb_ne h.op hg (by decide)), h.l⟩
theorem RS.put {B p n : Nat} {w0 w w' : World} {c : Cfg} {us us' : List Val} {Ao Ao' : Option Addr} {vp : Value} {qs : List Pay} (h : RS B p w0 c n us Ao vp qs w) (hb : Below w.heap.size w w') (hr : Row Val.list w' Ao' n us') : RS B p w0 c n us' Ao' vp qs w' :=
  ⟨(h.call hb).hc, (h.call hb).hb, hr, (h.call hb).op, h.l⟩
theorem RS.paid {B p n : Nat} {w0 w w' : World} {c : Cfg} {us : List Val} {Ao : Option Addr} {vp vp' : Value} {qs qs' : List Pay} (h : RS B p w0 c n us Ao vp qs w) (hg : w.grownBy w' vp.ownBlock) (ha : ∀ ad, Ao = some ad → vp.ownBlock ≠ some ad.block) (hn : w'.ownsRow B 37 3 vp' qs'.length (flat Pay.list qs')) :
    RS B p w0 c n us Ao vp' qs' w' :=
  ⟨(hg.block p h.hc.lt (fun e => own_nb_ne h.op (show Nb w p _ from h.hc) (by decide) e.symm)).trans h.hc, h.hb.grown hg (by have := h.hc.lt; have := h.l; omega) (fun k hk => (h.op.lt k hk).1),
   h.ro.keep hg.size (fun ad h1 hl => hg.block _ hl (fun e => ha ad h1 e.symm)), hn, h.l⟩

theorem pstep_out (c : Cfg) (st : List Val × List Pay) (r : Req) (h : r.idx < 0 ∨ (st.1.length : Int) ≤ r.idx) : pstep c st r = st := by
  unfold pstep; rw [if_pos h]
theorem pstep_in (c : Cfg) (us : List Val) (qs : List Pay) (s : Nat) (a : Int) (x : Val) (hs : us[s]? = some x) : pstep c (us, qs) ⟨s, a⟩ = (us.set s (x.less (payN x a c)), qs ++ [⟨s, payN x a c, false⟩]) := by
  unfold pstep
  have hl : s < us.length := (List.getElem?_eq_some_iff.1 hs).1
  rw [if_neg (by simp only; omega)]
  simp only [Int.toNat_natCast, hs]
theorem keep_paid (qs : List Pay) (s : Int) (k : Int) (h : k ≠ 0) : (qs ++ [(⟨s, k, false⟩ : Pay)]).filter keepB = qs.filter keepB ++ [⟨s, k, false⟩] := by
  rw [List.filter_append]; congr 1; simp [keepB, delB, h]
theorem keep_none (qs : List Pay) (s : Int) : (qs ++ [(⟨s, 0, false⟩ : Pay)]).filter keepB = qs.filter keepB := by
  rw [List.filter_append]; simp [keepB, delB]

theorem own_len {w : World} {base size n : Nat} {e : TypeId} {a : Option Addr} {m c : Nat} {xs : List Value} (h : w.ownsRow base e size (.slice a m c) n xs) : m = n := by
  obtain ⟨h1, h2⟩ := h
  rcases h2 with ⟨h2, h3⟩ | ⟨g, cap, cur, h2, -⟩
  · simp only [Value.slice.injEq] at h2; omega
  · simp only [Value.slice.injEq] at h2; omega

def RStepP (n : Nat) (us : List Val) (qs : List Pay) (k : Nat) (w : World) (e : Ending) (w' : World) : Prop :=
  ∃ A cap Ap m cp, e = .returned (.tuple #[.slice A n cap, .slice Ap m cp, .int .i64 k]) ∧ Row Val.list w' A n us ∧ Row Pay.list w' Ap m qs ∧ Below w.heap.size w w'

set_option maxHeartbeats 16000000 in
theorem rstep_any (vs : List Val) (A : Option Addr) (n cap : Nat) (rs : List Req) (Aq : Option Addr) (m capq k : Nat) (c : Cfg) (w : World) (hR : Row Val.list w A n vs) (hn : n ≤ 60) (hok : AllOk vs) (hc : 0 ≤ c.minBal)
    (hq : Row Req.list w Aq m rs) (hm6 : m ≤ 60) (hk : k = min m c.parts.toNat) (hmg : 0 ≤ c.parts ∧ c.parts ≤ 4096) (hrs : ∀ r ∈ rs, r.Ok) :
    Calls Try.prog 10 #[.slice A n cap, .slice Aq m capq, .agg c.list.toArray] w (RStepP n (pfold c vs (rs.take k)).1 ((pfold c vs (rs.take k)).2.filter keepB) k w) := by
  have HC0 := Lib.hid ((CfgAt.new w c).alloc (.cells #[] 35))
  have HRR := Lib.hid ((hR.alloc (.cells c.list.toArray 26)).alloc (.cells #[] 35))
  have HB := Lib.hid (((Below.refl w.heap.size w).alloc (Nat.le_refl _) (.cells c.list.toArray 26)).alloc (by simp) (.cells #[] 35))
  have HO : Hid (World.ownsRow ((w.alloc (.cells c.list.toArray 26)).alloc (.cells #[] 35)) (w.heap.size + 1) 35 7 (.slice (some ⟨w.heap.size + 1, 0, none⟩) 0 0) 0 (flat Val.list [])) := by
    have := World.ownsRow_made (e := 35) (size := 7) (w.alloc (.cells c.list.toArray 26)) (base := w.heap.size + 1) #[] 0 (by simp) (by unfold maxLen; omega) rfl
    simpa [Hid, flat] using this
  have HQ := Lib.hid hq
  have HML := Lib.hid hq.1
  have HKm : Hid (k ≤ m ∧ (k : Int) ≤ c.parts ∧ (k = m ∨ (k : Int) = c.parts)) := by
    rw [Hid]; omega
  have HRS := Lib.hid hrs
  have HSp := Lib.hid (pfold_spec hok hc hrs)
  have HLn := Lib.hid hR.1
  clear hR hq hk hrs hok
  go_enter Try.func10, Try.ntmps10
  go_wp2_with (first | ((with_reducible show wpList _ _ _ (⟨some 18, _, _, _, _, _⟩ :: _) _ _); refine halted ?_) | fail)
  unfold Halted
  refine wpList_appendR 22 Val.len (by decide) Val.one HO.out HRR.out (.agg Val.zero.list.toArray) Try.underlying22 Try.infoV rfl (by omega) (by omega) (by simp) rfl rfl rfl rfl ?_
  intro v' w1 hown hgr hat
  obtain ⟨Ao, co, rfl⟩ := own_slice hown
  have hn0 : 0 + n = n := Nat.zero_add n
  rw [hn0] at hown ⊢
  have hc1 : CfgAt w1 w.heap.size c := by
    have := hgr.block w.heap.size (by simp; omega) (by simp [Value.ownBlock])
    exact this.trans HC0.out
  have hB1 : Below w.heap.size w w1 := HB.out.grown hgr (by simp; omega) (fun k hk => by simp [Value.ownBlock] at hk; omega)
  have HS0 : Hid (RS w.heap.size w.heap.size w c n (pfold c vs (rs.take 0)).1 Ao (.slice none 0 0) ((pfold c vs (rs.take 0)).2.filter keepB) w1) :=
    ⟨hc1, hB1, row_of_own Val.len (by decide) (by simpa [pfold] using hown), by have h := World.ownsRow_nil w1 w.heap.size 37 3; simpa [pfold, flat] using h, Nat.le_refl _⟩
  clear hown hgr hat hc1 hB1 HC0 HRR HB HO hn0
  go_wp2_with fail
  go_loopg [9, 10, 11, 12] k (fun kk vo vp nn i wr => ∃ (j : Nat) (Ao : Option Addr) (co : Nat), j + kk = k ∧ i = .int .i64 j ∧ nn = .int .i64 j ∧ vo = .slice Ao n co ∧ Hid (RS w.heap.size w.heap.size w c n (pfold c vs (rs.take j)).1 Ao vp ((pfold c vs (rs.take j)).2.filter keepB) wr))
  case atStart => exact ⟨0, Ao, co, by omega, rfl, rfl, rfl, HS0⟩
  case round =>
    obtain ⟨j, Ao, co, hjk, rfl, rfl, rfl, HS⟩ := hrel
    clear HS0
    have HJ := Lib.hid hjk
    clear hjk
    obtain ⟨Ap, mp, cp, rfl⟩ : ∃ Ap mp cp, u10 = .slice Ap mp cp := by
      have h := HS.out.op
      obtain ⟨h1, h2⟩ := h
      rcases h2 with ⟨h2, -⟩ | ⟨g, cc, cur, h2, -⟩
      · exact ⟨_, _, _, h2⟩
      · exact ⟨_, _, _, h2⟩
    have e16 := HS.out.hc.c16
    by_cases hlt : j < k
    · have hkm := HKm.out
      have hml := HML.out
      have hjm : j < rs.length := by omega
      obtain ⟨bq, oq, rfl, hbq, hrq⟩ := row_some HQ.out (by omega)
      have rp := Row.elem Req.len hrq j hjm
      have hro := HRS.out _ (List.getElem_mem hjm)
      have hsp := HSp.out j (by omega)
      have HU := Lib.hid (pfold_succ c vs rs j hjm)
      obtain ⟨⟨a, b⟩, hpj⟩ : ∃ p, rs[j] = p := ⟨_, rfl⟩
      rw [hpj] at rp hro HU
      have hbel : Below w.heap.size w wr := HS.out.hb
      have q0 : wr.cell? ⟨bq, oq + j * 2, none⟩ = some (.int .i64 a) := (hbel.cell (p := ⟨bq, oq + j * 2, none⟩) hbq).trans (rp 0 _ rfl)
      have q1 : wr.cell? ⟨bq, oq + j * 2 + 1, none⟩ = some (.int .u64 b) := (hbel.cell (p := ⟨bq, oq + j * 2 + 1, none⟩) hbq).trans (rp 1 _ rfl)
      have hj1 : (j : Int) < (m : Int) := by omega
      have hj2 : (j : Int) < c.parts := by omega
      have hj0 : (0 : Int) ≤ (j : Int) := by omega
      have hj6 : (j : Int) ≤ 60 := by omega
      obtain ⟨s1, s2, s3⟩ := hsp
      generalize hst : pfold c vs (rs.take j) = st at *
      obtain ⟨us, qs⟩ := st
      simp only at s1 s2 s3 HS
      have HUl : Hid (us.length = n) := s1.trans HLn.out.symm
      have HUok := Lib.hid s2
      have HQl : Hid ((qs.filter keepB).length ≤ 60) := by have := List.length_filter_le keepB qs; rw [Hid]; omega
      have HRo := Lib.hid hro
      clear rp hro hst s1 s2 s3 hpj hrq hkm hml hjm
      go_upto_region 9 with fail
      have HN : Hid (Nb (wr.alloc (.cells #[.int .i64 a, .int .u64 b] 52)) wr.heap.size (.cells #[.int .i64 a, .int .u64 b] 52 (0, 0))) := Nb.new _ _
      have HS1 := Lib.hid (HS.out.call ((Below.refl wr.heap.size wr).alloc (Nat.le_refl _) (.cells #[.int .i64 a, .int .u64 b] 52)))
      have hqB : w.heap.size ≤ wr.heap.size := HS.out.hb.size
      clear HS q0 q1 e16
      generalize hnq : wr.heap.size = nq at *
      generalize hw1 : World.alloc wr _ = w2 at *
      clear hw1 hnq hbel
      have n0 := HN.out.cell (i := 0)
      have n1 := HN.out.cell (i := 1)
      simp only [List.getElem?_toArray, List.getElem?_cons_zero, List.getElem?_cons_succ] at n0 n1
      by_cases ha0 : a < 0
      · have hd : decide (a < 0) = true := by simpa using ha0
        have HU2 : Hid (pfold c vs (rs.take (j + 1)) = (us, qs)) := by rw [Hid, HU.out]; exact pstep_out c _ _ (.inl ha0)
        clear ha0 HU
        go_wp2_with fail
        go_roundg (k - (j + 1))
        case measure => have := HJ.out; omega
        case rel => exact ⟨j + 1, _, _, by have := HJ.out; omega, by go_num, by go_num, rfl, by rw [HU2.out]; exact HS1⟩
      · by_cases han : (n : Int) ≤ a
        · have hd : decide (a < 0) = false := by simpa using ha0
          have hd2 : decide ((n : Int) ≤ a) = true := by simpa using han
          have HU2 : Hid (pfold c vs (rs.take (j + 1)) = (us, qs)) := by rw [Hid, HU.out]; exact pstep_out c _ _ (.inr (by have := HUl.out; simp only; omega))
          clear ha0 han HU
          go_wp2_with fail
          go_roundg (k - (j + 1))
          case measure => have := HJ.out; omega
          case rel => exact ⟨j + 1, _, _, by have := HJ.out; omega, by go_num, by go_num, rfl, by rw [HU2.out]; exact HS1⟩
        · obtain ⟨s, rfl⟩ := Int.eq_ofNat_of_zero_le (show 0 ≤ a by omega)
          have hsn : s < n := by omega
          have hsu : s < us.length := by have := HUl.out; omega
          have hd : decide ((s : Int) < 0) = false := by simpa using ha0
          have hd2 : decide ((n : Int) ≤ (s : Int)) = false := by simpa using han
          obtain ⟨gb, ob, rfl, hgb, hrb⟩ := row_some HS1.out.ro (by omega)
          have RU := Lib.hid (Row.elem Val.len hrb s hsu)
          have hxo := HUok.out _ (List.getElem_mem hsu)
          obtain ⟨x, hx⟩ : ∃ x, us[s] = x := ⟨_, rfl⟩
          rw [hx] at RU hxo
          have HU2 : Hid (pfold c vs (rs.take (j + 1)) = (us.set s (x.less (payN x b c)), qs ++ [⟨s, payN x b c, false⟩])) := by
            rw [Hid, HU.out]
            exact pstep_in c us qs s b x (by rw [List.getElem?_eq_getElem hsu, hx])
          have hkb := payN_bd (amt := b) hxo hc HRo.out.1
          have HAv := Lib.hid (fun w => ravail_any x c w hxo hc)
          have hs1 : (s : Int) < (n : Int) := by omega
          have hs0 : (0 : Int) ≤ (s : Int) := by omega
          have hx2 := hxo.2
          have HGB := Lib.hid hgb
          clear hrb hx HU ha0 han hgb hsu hxo
          go_wp2_with (first | ((with_reducible show wpList _ _ _ (⟨some 51, _, _, _, _, _⟩ :: _) _ _); refine halted ?_) | fail)
          unfold Halted
          refine wpList_load_at x (.tmp 50) rfl rfl rfl RU.out ?_
          go_wp2_with (first | ((with_reducible show wpList _ _ _ (⟨none, _, _, _, _, _⟩ :: _) _ _); refine halted ?_) | fail)
          unfold Halted
          refine wpList_store_last 35 (.tmp 14) (.tmp 51) x.list.toArray rfl rfl rfl rfl x.info rfl x.oneA ?_
          have HV := Lib.hid (ValAt.new w2 x)
          have hba : Below w2.heap.size w2 (w2.alloc (.cells x.list.toArray 35)) := (Below.refl _ _).alloc (Nat.le_refl _) _
          have HS2 := Lib.hid (HS1.out.call hba)
          have HN2 := Lib.hid (HN.out.call hba)
          have hnB : w.heap.size ≤ w2.heap.size := HS1.out.hb.size
          have hnp : w.heap.size < w2.heap.size := HS1.out.hc.lt
          have hnqn : nq < w2.heap.size := HN.out.lt
          have hgbn : gb < w2.heap.size := HGB.out
          clear hba HS1 HN RU HGB n0 n1
          generalize hnb : w2.heap.size = nb at *
          generalize hwn : World.alloc w2 _ = w3 at *
          clear hwn hnb
          go_upto_region 11 with fail
          obtain ⟨kp, hkp⟩ : ∃ kp, payN x b c = kp := ⟨_, rfl⟩
          have hmin : (if avail x c < b then avail x c else b) = kp := hkp
          rw [hkp] at HU2 hkb
          refine calm_region (fun w' => RS w.heap.size w.heap.size w c n us (some ⟨gb, ob, none⟩) (.slice Ap mp cp) (qs.filter keepB) w' ∧ Nb w' nq (.cells #[.int .i64 (s : Int), .int .u64 b] 52 (0, 0)) ∧ ValAt w' nb x) (by kernel_rfl) (by kernel_rfl)
            ⟨HS2.out.call (below_drewN (Below.refl _ _) 1), HN2.out, HV.out⟩ ?_
          clear HS2 HN2 HV
          refine calm_val (v := ?v0) (by rfl) ?y0 ?z0
          case y0 => intro w hw; go_simp; (try with_reducible rfl)
          try simp only [Act.put, List.getElem_toArray, List.getElem_cons_succ, List.getElem_cons_zero, List.setIfInBounds_toArray, List.set_cons_zero, List.set_cons_succ]
          refine calm_val (v := ?v1) (by rfl) ?y1 ?z1
          case y1 => intro w hw; have e := hw.2.1.cell (i := 1); simp only [List.getElem?_toArray, List.getElem?_cons_zero, List.getElem?_cons_succ] at e; go_simp; (try with_reducible rfl)
          try simp only [Act.put, List.getElem_toArray, List.getElem_cons_succ, List.getElem_cons_zero, List.setIfInBounds_toArray, List.set_cons_zero, List.set_cons_succ]
          refine calm_load 35 (.tmp 14) (by rfl) rfl rfl (fun w hw => hw.2.2) _ Try.underlying35 rfl x.info ?_
          try simp only [Act.put, List.getElem_toArray, List.getElem_cons_succ, List.getElem_cons_zero, List.setIfInBounds_toArray, List.set_cons_zero, List.set_cons_succ]
          refine calm_load 26 (.tmp 5) (by rfl) rfl rfl (fun w hw => hw.1.hc) _ Try.underlying26 rfl (by show _ = some 20; kernel_rfl) ?_
          try simp only [Act.put, List.getElem_toArray, List.getElem_cons_succ, List.getElem_cons_zero, List.setIfInBounds_toArray, List.set_cons_zero, List.set_cons_succ]
          refine calm_fn (fun h hb => ⟨h.1.call hb, h.2.1.call hb, h.2.2.call hb⟩) HAv.out (by rfl) ?f4 ?_
          case f4 => intro w; go_simp
          try simp only [Act.put, List.getElem_toArray, List.getElem_cons_succ, List.getElem_cons_zero, List.setIfInBounds_toArray, List.set_cons_zero, List.set_cons_succ]
          refine calm_val (v := ?v5) (by rfl) ?y5 ?z5
          case y5 => intro w hw; go_simp; (try with_reducible rfl)
          try simp only [Act.put, List.getElem_toArray, List.getElem_cons_succ, List.getElem_cons_zero, List.setIfInBounds_toArray, List.set_cons_zero, List.set_cons_succ]
          refine calm_val (v := ?v6) (by rfl) ?y6 ?z6
          case y6 => intro w hw; go_simp; (try with_reducible rfl)
          try simp only [Act.put, List.getElem_toArray, List.getElem_cons_succ, List.getElem_cons_zero, List.setIfInBounds_toArray, List.set_cons_zero, List.set_cons_succ]
          refine wpQuiet_nil ?_
          intro w4 hC4
          have HS4 := Lib.hid hC4.1
          have HN4 := Lib.hid hC4.2.1
          have HV4 := Lib.hid hC4.2.2
          clear hC4 hmin HAv
          have e0 := HV4.out.c0
          have ef := Nb.frozen (i := 0) HV4.out
          have hb0 : 0 ≤ x.bal - kp := by omega
          have hb1 : x.bal - kp ≤ 18446744073709551615 := by omega
          go_upto_region 13 with fail
          have HS5 : Hid (RS w.heap.size w.heap.size w c n us (some ⟨gb, ob, none⟩) (.slice Ap mp cp) (qs.filter keepB) (w4.setCell ⟨nb, 0, none⟩ (.int .u64 (x.bal - kp)))) := by
            rw [Hid, Nb.set HV4.out]
            exact HS4.out.setRow _ HV4.out hnB (by omega) (fun ad h => by cases h; simp only; omega)
          have HN5 : Hid (Nb (w4.setCell ⟨nb, 0, none⟩ (.int .u64 (x.bal - kp))) nq (.cells #[.int .i64 (s : Int), .int .u64 b] 52 (0, 0))) := by
            rw [Hid, Nb.set HV4.out]
            exact HN4.out.other (by omega)
          have HV5 : Hid (ValAt (w4.setCell ⟨nb, 0, none⟩ (.int .u64 (x.bal - kp))) nb (x.less kp)) := by
            rw [Hid, Nb.set HV4.out]
            exact Nb.same HV4.out
          clear e0 ef HS4 HN4 HV4
          generalize hwn : World.setCell w4 _ _ = w5 at *
          clear hwn
          have n0 := HN5.out.cell (i := 0)
          simp only [List.getElem?_toArray, List.getElem?_cons_zero, List.getElem?_cons_succ] at n0
          have HPt := Lib.hid (put_new us (some ⟨gb, ob, none⟩) n co s (x.less kp) w5 HS5.out.ro hsn (by omega))
          go_wp2_with (first | ((with_reducible show wpList _ _ _ (⟨some 66, _, _, _, _, _⟩ :: _) _ _); refine halted ?_) | fail)
          unfold Halted
          refine wpList_load_val (.tmp 14) rfl rfl rfl HV5.out ?_
          go_wp2_with fail
          refine HPt.out.mono ?_
          rintro en w6 ⟨g6, c6, rfl, hr6, -, hb6, hge⟩
          have HS6 := Lib.hid (HS5.out.put hb6 hr6)
          have HN6 := Lib.hid (HN5.out.call hb6)
          have hg6 : ∀ ad : Addr, (some (⟨g6, 0, none⟩ : Addr)) = some ad → (Value.slice Ap mp cp).ownBlock ≠ some ad.block := by
            intro ad h1 h2
            cases h1
            have := (HS5.out.op.lt _ h2).2
            simp only at this
            omega
          have HG6 := Lib.hid hg6
          clear hr6 hb6 hg6 hge HS5 HN5 HV5 HPt n0
          have n0 := HN6.out.cell (i := 0)
          simp only [List.getElem?_toArray, List.getElem?_cons_zero, List.getElem?_cons_succ] at n0
          by_cases hk0 : kp = 0
          · subst hk0
            have HU3 : Hid ((pfold c vs (rs.take (j + 1))).1 = us.set s (x.less 0) ∧ (pfold c vs (rs.take (j + 1))).2.filter keepB = qs.filter keepB) := by
              rw [Hid, HU2.out]; exact ⟨rfl, keep_none _ _⟩
            clear HU2
            go_wp2_with fail
            go_roundg (k - (j + 1))
            case measure => have := HJ.out; omega
            case rel => exact ⟨j + 1, _, _, by have := HJ.out; omega, by go_num, by go_num, rfl, by rw [HU3.out.1, HU3.out.2]; exact HS6⟩
          · have hk1 : 0 < kp := by omega
            have HU3 : Hid ((pfold c vs (rs.take (j + 1))).1 = us.set s (x.less kp) ∧ (pfold c vs (rs.take (j + 1))).2.filter keepB = qs.filter keepB ++ [⟨s, kp, false⟩]) := by
              rw [Hid, HU2.out]; exact ⟨rfl, keep_paid _ _ _ hk0⟩
            have hkd : decide (0 < kp) = true := by simpa using hk1
            clear HU2
            go_wp2_with (first | ((with_reducible show wpList _ _ _ (⟨some 76, _, _, _, _, _⟩ :: _) _ _); refine halted ?_) | fail)
            unfold Halted
            have HS7 := Lib.hid (HS6.out.call ((Below.refl w6.heap.size w6).alloc (Nat.le_refl _) (.cells #[.int .i64 (s : Int), .int .u64 kp, .bool false] 37)))
            have HRw : Hid (Row Pay.list (w6.alloc (.cells #[.int .i64 (s : Int), .int .u64 kp, .bool false] 37)) (some ⟨w6.heap.size, 0, none⟩) 1 [⟨s, kp, false⟩]) := by
              refine ⟨rfl, .inr ⟨_, 0, rfl, by simp, fun j v hj => ?_⟩⟩
              have hn := Nb.new w6 (.cells #[.int .i64 (s : Int), .int .u64 kp, .bool false] 37)
              rw [Nat.zero_add, hn.cell]
              rw [flat_one] at hj
              simpa [Pay.list] using hj
            have HBs : Hid (w.heap.size ≤ w6.heap.size) := HS6.out.hb.size
            refine wpList_appendR 29 Pay.len (by decide) Pay.one HS7.out.op HRw.out (.agg (Pay.list ⟨0, 0, false⟩).toArray) Try.underlying29 Try.infoP rfl (by have := HQl.out; omega) (by have := HQl.out; omega) (by have := HBs.out; simp; omega) rfl rfl rfl rfl ?_
            intro vp' w8 hown hgr hat
            obtain ⟨g2, c2, rfl, -, -, -⟩ := own_form hown (by omega)
            have HS8 := Lib.hid (HS7.out.paid (qs' := qs.filter keepB ++ [⟨s, kp, false⟩]) hgr HG6.out (by simpa using hown))
            clear hown hgr hat HS7 HRw HBs HS6 HN6 n0
            go_wp2_with fail
            go_roundg (k - (j + 1))
            case measure => have := HJ.out; omega
            case rel => exact ⟨j + 1, _, _, by have := HJ.out; omega, by go_num, by go_num, rfl, by rw [HU3.out.1, HU3.out.2]; exact HS8⟩
    · obtain rfl : j = k := by have := HJ.out; omega
      have hkm := HKm.out
      have HRp : Hid (∃ m', mp = m' ∧ Row Pay.list wr Ap m' ((pfold c vs (rs.take j)).2.filter keepB)) := by
        have h := HS.out.op
        exact ⟨_, (own_len h), row_of_own Pay.len (by decide) h⟩
      by_cases hjm : j = m
      · subst hjm
        go_wp2_with fail
        refine bodyPost_ret (results_tmp3 rfl _ _ _) rfl ?_
        obtain ⟨m', rfl, hrp⟩ := HRp.out
        exact ⟨_, _, _, _, _, rfl, HS.out.ro, hrp, HS.out.hb⟩
      · have hj1 : (j : Int) < (m : Int) := by omega
        have hj2 : decide ((j : Int) < c.parts) = false := by rw [decide_eq_false_iff_not]; omega
        go_wp2_with fail
        refine bodyPost_ret (results_tmp3 rfl _ _ _) rfl ?_
        obtain ⟨m', rfl, hrp⟩ := HRp.out
        exact ⟨_, _, _, _, _, rfl, HS.out.ro, hrp, HS.out.hb⟩

end Go.Proofs.Ytbafgipegekbcaa
