/- Chapter 16: the walk of Step. -/
import Derived.Test.YtgmbgomlicamdaaMgJ
import Derived.Test.YtgmbgomlicamdaaClone
import Derived.Deep.Cut
namespace Go.Proofs.Ytgmbgomlicamdaa
open Go.RowKit Go.Maps
set_option linter.unusedSimpArgs false
set_option linter.unusedVariables false
set_option maxRecDepth 20000

/-- A pair's cells. -/
def pairL (p : Int × Int) : List Value := [.int .i64 p.1, .int .i64 p.2]
theorem pair_len (p : Int × Int) : (pairL p).length = 2 := rfl

theorem own_ne {w : World} {base base' size size' n n' : Nat} {e e' : TypeId} {v v' : Value} {xs xs' : List Value} (h : w.ownsRow base e size v n xs) (h' : w.ownsRow base' e' size' v' n' xs') (hne : e ≠ e') : v.ownBlock = none ∨ v.ownBlock ≠ v'.ownBlock := by
  rcases h'.2 with ⟨rfl, _⟩ | ⟨g', cap, cur, rfl, _, hh, _⟩
  · cases hv : v.ownBlock with
    | none => exact .inl rfl
    | some k => right; simp [Value.ownBlock]
  · exact .inr (own_nb_ne h (show Nb w g' _ from hh) hne)

/-- While a request is performed: the pair at q, the configuration at p, the own row g. -/
structure MsX (B p q g n cap j : Nat) (vd : Value) (w0 : World) (a b : Int) (c : Cfg) (us : List Val) (w : World) : Prop where
  hp : Nb w q (.cells #[.int .i64 a, .int .i64 b] 37 (0, 0))
  hc : CfgAt w p c
  hb : Below B w0 w
  own : w.ownsRow B 24 7 (.slice (some ⟨g, 0, none⟩) n cap) n (flat Val.list us)
  l1 : B ≤ p ∧ B ≤ q
  dn : ∃ bs : List Bool, w.ownsRow B 4 1 vd j (bs.map Value.bool)
theorem MsX.cls {B p q g n cap j : Nat} {vd : Value} {w0 w : World} {a b : Int} {c : Cfg} {us : List Val} (h : MsX B p q g n cap j vd w0 a b c us w) : Nb w q (.cells #[.int .i64 a, .int .i64 b] 37 (0, 0)) ∧ CfgAt w p c ∧ True := ⟨h.hp, h.hc, trivial⟩
theorem own_call {w w' : World} {base size n : Nat} {e : TypeId} {v : Value} {xs : List Value} (h : w.ownsRow base e size v n xs) (hb : Below w.heap.size w w') : w'.ownsRow base e size v n xs :=
  h.kept (row := none) ⟨hb.os, hb.tape, hb.output, hb.size, fun k hk _ => hb.block k hk⟩ (by cases hv : v.ownBlock <;> simp)
theorem MsX.call {B p q g n cap j : Nat} {vd : Value} {w0 w w' : World} {a b : Int} {c : Cfg} {us : List Val} (h : MsX B p q g n cap j vd w0 a b c us w) (hb : Below w.heap.size w w') : MsX B p q g n cap j vd w0 a b c us w' :=
  ⟨h.hp.call hb, h.hc.call hb, h.hb.trans (hb.mono (by have := h.hp.lt; have := h.l1; omega)), own_call h.own hb, h.l1, by obtain ⟨bs, hbs⟩ := h.dn; exact ⟨bs, own_call hbs hb⟩⟩
theorem MsX.at_ {B p q g n cap j : Nat} {vd : Value} {w0 w : World} {a b : Int} {c : Cfg} {us : List Val} (h : MsX B p q g n cap j vd w0 a b c us w) {s : Nat} (hs : s < us.length) : w.rangeAt g (s * 7) us[s].list := by
  obtain ⟨-, h2⟩ := row_of_own Val.len (by decide) h.own
  rcases h2 with h2 | ⟨b', o', h2, _, hr⟩
  · subst h2; simp at hs
  · simp only [Option.some.injEq, Addr.mk.injEq] at h2
    obtain ⟨rfl, rfl, -⟩ := h2
    simpa using Row.elem Val.len hr s hs
theorem MsX.there {B p q g n cap j : Nat} {vd : Value} {w0 w : World} {a b : Int} {c : Cfg} {us : List Val} (h : MsX B p q g n cap j vd w0 a b c us w) {s : Nat} (hs : s < n) : w.there g (s * 7) 7 := own_there Val.len (by decide) h.own s hs
theorem MsX.put {B p q g n cap j : Nat} {vd : Value} {w0 w : World} {a b : Int} {c : Cfg} {us : List Val} (h : MsX B p q g n cap j vd w0 a b c us w) {s : Nat} (hs : s < n) (v : Val) : MsX B p q g n cap j vd w0 a b c (us.set s v) (w.setCells g (s * 7) v.list) := by
  obtain ⟨h1, h2⟩ := own_put Val.len (by decide) h.own s hs v
  have hg : B ≤ g := (h.own.lt g rfl).1
  have n1 : g ≠ q := fun e => own_nb_ne h.own h.hp (by decide) (by rw [e]; rfl)
  have n2 : g ≠ p := fun e => own_nb_ne h.own (show Nb w p _ from h.hc) (by decide) (by rw [e]; rfl)
  exact ⟨(h2.block q h.hp.lt (fun e => n1 (by cases e; rfl))).trans h.hp, (h2.block p h.hc.lt (fun e => n2 (by cases e; rfl))).trans h.hc, h.hb.grown h2 (by have := h.hp.lt; have := h.l1; omega) (fun k hk => by cases hk; exact hg), h1, h.l1, by
    obtain ⟨bs, hbs⟩ := h.dn
    exact ⟨bs, hbs.kept h2 (own_ne hbs h.own (by decide))⟩⟩

/-- At the head of a round. -/
structure MsI (B p : Nat) (w0 : World) (c : Cfg) (n j : Nat) (us : List Val) (vo vd : Value) (w : World) : Prop where
  hc : CfgAt w p c
  hb : Below B w0 w
  own : w.ownsRow B 24 7 vo n (flat Val.list us)
  dn : ∃ bs : List Bool, w.ownsRow B 4 1 vd j (bs.map Value.bool)
  l1 : B ≤ p

theorem MsI.more {B p n j : Nat} {w0 w w' : World} {c : Cfg} {us : List Val} {vo vd vd' : Value} {xs : List Value} (h : MsI B p w0 c n j us vo vd w) (hd : w.ownsRow B 4 1 vd j xs) (hg : w.grownBy w' vd.ownBlock) (hn : ∃ bs : List Bool, w'.ownsRow B 4 1 vd' (j + 1) (bs.map Value.bool)) : MsI B p w0 c n (j + 1) us vo vd' w' := by
  have hc : w'.heap[p]? = w.heap[p]? := hg.block p h.hc.lt (fun e => own_nb_ne hd (show Nb w p _ from h.hc) (by decide) e.symm)
  exact ⟨hc.trans h.hc, h.hb.grown hg (Nat.le_trans h.l1 (Nat.le_of_lt h.hc.lt)) (fun k hk => (hd.lt k hk).1), h.own.kept hg (own_ne h.own hd (by decide)), hn, h.l1⟩

theorem Try.infoB : (Try.prog.info? 4).map (fun i => (i.zero, i.size, i.bytes)) = some (some (.bool false), 1, 1) := by kernel_rfl

def StepPost (n : Nat) (vs : List Val) (w : World) (e : Ending) (w' : World) : Prop :=
  ∃ A cap vd, e = .returned (.tuple #[.slice A n cap, vd]) ∧ Vals w' A n vs ∧ Below w.heap.size w w'

set_option maxHeartbeats 16000000 in
theorem mstep_some (vs : List Val) (A : Option Addr) (n cap : Nat) (ps : List (Int × Int)) (bq oq m capq k : Nat) (c : Cfg) (w : World) (hR : Vals w A n vs) (hn : n ≤ 60) (hok : AllOk vs) (hm : c.maxBal ≤ 1152921504606846976)
    (hq : w.rangeAt bq oq (flat pairL ps)) (hbq : bq < w.heap.size) (hml : m = ps.length) (hm6 : m ≤ 60) (hcq : m ≤ capq) (hk : k = min m c.merges.toNat) (hmg : 0 ≤ c.merges ∧ c.merges ≤ 4096) :
    Calls Try.prog 17 #[.slice A n cap, .slice (some ⟨bq, oq, none⟩) m capq, .agg c.list.toArray] w (StepPost n (mfold c vs (ps.take k)) w) := by
  have HC0 := Lib.hid (CfgAt.new w c)
  have HB0 := Lib.hid ((Below.refl w.heap.size w).alloc (Nat.le_refl _) (.cells c.list.toArray 26))
  have HCl := Lib.hid (clone_any vs A n cap _ (hR.alloc (.cells c.list.toArray 26)) (by omega))
  have HQ := Lib.hid hq
  have HK := Lib.hid hk
  have HML := Lib.hid hml
  have hmin : (if c.merges < (m : Int) then c.merges else (m : Int)) = (k : Int) := by split <;> omega
  have HOK := Lib.hid hok
  have HLn := Lib.hid hR.1
  have e17 := HC0.out.c17
  have hkm : k ≤ m := by omega
  clear hR hok hq hk hml
  go_enter Try.func17, Try.ntmps17
  go_wp2_with fail
  refine HCl.out.mono ?_
  rintro en w1 ⟨vo, rfl, hown, hb⟩
  obtain ⟨Ao, co, rfl⟩ := own_slice hown
  have hC1 := HC0.out.call hb
  have e17' := hC1.c17
  have hb' : Below w.heap.size w w1 := HB0.out.trans (hb.mono HB0.out.size)
  have HI0 : Hid (MsI w.heap.size w.heap.size w c n 0 (mfold c vs (ps.take 0)) (.slice Ao n co) (.slice none 0 0) w1) := ⟨hC1, hb', by
    obtain ⟨h1, h2⟩ := hown
    refine ⟨h1, ?_⟩
    rcases h2 with h2 | ⟨g, cp, cur, hv, hg, r⟩
    · exact .inl h2
    · exact .inr ⟨g, cp, cur, hv, Nat.le_trans HB0.out.size hg, r⟩, ⟨[], World.ownsRow_nil _ _ _ _⟩, Nat.le_refl _⟩
  clear hC1 hown hb hb' e17
  go_wp2_with fail
  clear e17'
  go_loopg [9, 23] k (fun kk vd i wr => ∃ (j : Nat), j + kk = k ∧ i = .int .i64 j ∧ Hid (MsI w.heap.size w.heap.size w c n j (mfold c vs (ps.take j)) (.slice Ao n co) vd wr))
  case atStart => exact ⟨0, by omega, rfl, HI0⟩
  case round =>
    obtain ⟨j, hjk, rfl, HI⟩ := hrel
    clear HI0 HC0 HB0
    have HJ := Lib.hid hjk
    clear hjk
    by_cases hlt : j < k
    · have hjm : j < ps.length := by have := HML.out; omega
      have rp := Row.elem pair_len HQ.out j hjm
      obtain ⟨⟨a, b⟩, hpj⟩ : ∃ p, ps[j] = p := ⟨_, rfl⟩
      have hbel : Below w.heap.size w wr := HI.out.hb
      rw [hpj] at rp
      have q0 : wr.cell? ⟨bq, oq + j * 2, none⟩ = some (.int .i64 a) := (hbel.cell (p := ⟨bq, oq + j * 2, none⟩) hbq).trans (rp 0 _ rfl)
      have q1 : wr.cell? ⟨bq, oq + j * 2 + 1, none⟩ = some (.int .i64 b) := (hbel.cell (p := ⟨bq, oq + j * 2 + 1, none⟩) hbq).trans (rp 1 _ rfl)
      have HPJ := Lib.hid hpj
      clear rp hpj hbel
      have hjk1 : (j : Int) < (k : Int) := by omega
      have hj0 : (0 : Int) ≤ (j : Int) := by omega
      have hspec := mfold_spec hm (ps.take j) HOK.out
      have HU : Hid ((mfold c vs (ps.take (j + 1))) = mstep c (mfold c vs (ps.take j)) (a, b)) := by rw [Hid, mfold_succ c vs ps j hjm, HPJ.out]
      have HUl : Hid ((mfold c vs (ps.take j)).length = n) := hspec.1.trans HLn.out.symm
      have HUok := Lib.hid hspec.2.1
      generalize mfold c vs (ps.take j) = us at *
      clear hspec
      have HRq := Lib.hid (mreq_any us Ao n co a b c _ ((row_of_own Val.len (by decide) HI.out.own).alloc (.cells #[.int .i64 a, .int .i64 b] 37)) (by omega) HUok.out hm)
      go_wp2_with (first | ((with_reducible show wpList _ _ _ (_ :: _) _ _); refine wpList_load_cf (.tmp 5) rfl rfl rfl (HI.out.hc.alloc _) ?_) | fail)
      refine HRq.out.mono ?_
      rintro en w2 ⟨rfl, hb⟩
      have HI2 : Hid (MsI w.heap.size w.heap.size w c n j us (.slice Ao n co) u9 w2) := by
        have h0 := HI.out
        have ha : Below w.heap.size w (wr.alloc (.cells #[.int .i64 a, .int .i64 b] 37)) := h0.hb.alloc h0.hb.size _
        exact ⟨(h0.hc.alloc _).call hb, ha.trans (hb.mono ha.size), own_call (h0.own.alloc _) hb, by obtain ⟨bs, hbs⟩ := h0.dn; exact ⟨bs, own_call (hbs.alloc _) hb⟩, h0.l1⟩
      have HP2 : Hid (Nb w2 wr.heap.size (.cells #[.int .i64 a, .int .i64 b] 37 (0, 0))) := (Nb.new wr (.cells #[.int .i64 a, .int .i64 b] 37)).call hb
      have hqB : w.heap.size ≤ wr.heap.size := HI.out.hb.size
      clear hb HI HRq q0 q1
      generalize wr.heap.size = q at *
      by_cases hk0 : reqCode us a b c = 0
      · have HK0 := Lib.hid hk0
        obtain ⟨s, d, hs, hd, rfl, rfl, hne, hch⟩ := req_zero hk0
        have hU2 : Hid ((mfold c vs (ps.take (j + 1))) = (us.set s us[s].mv1).set d (us[s].mv2 us[d])) := by rw [Hid, HU.out, mstep_yes hs hd hk0]
        have hul := HUl.out
        have hxo := HUok.out _ (List.getElem_mem hs)
        have hyo := HUok.out _ (List.getElem_mem hd)
        have HA := Lib.hid (fun w => apply_any us[s] us[d] c w hxo hyo hm)
        rw [hch] at HA
        obtain ⟨g, co', hv, hg1, hg2, hcc⟩ := own_form HI2.out.own (by omega)
        simp only [Value.slice.injEq, true_and] at hv
        obtain ⟨rfl, rfl⟩ := hv
        have HX : Hid (MsX w.heap.size w.heap.size q g n co j u9 w s d c us w2.drew) := ⟨HP2.out, HI2.out.hc, below_drewN HI2.out.hb 1, HI2.out.own, ⟨Nat.le_refl _, hqB⟩, HI2.out.dn⟩
        obtain ⟨x, hx⟩ : ∃ x, us[s] = x := ⟨_, rfl⟩
        obtain ⟨y, hy⟩ : ∃ y, us[d] = y := ⟨_, rfl⟩
        rw [hx, hy] at hU2 HA
        have HAX : Hid (∀ w', MsX w.heap.size w.heap.size q g n co j u9 w s d c us w' → w'.rangeAt g (s * 7) x.list ∧ w'.rangeAt g (d * 7) y.list) := fun w' h => by
          have h1 := h.at_ hs
          have h2 := h.at_ hd
          rw [hx] at h1
          rw [hy] at h2
          exact ⟨h1, h2⟩
        have hsn : s < n := by omega
        have hdn : d < n := by omega
        clear hk0 HU hul hxo hyo hch hx hy HI2 HP2 hs hd HUok HUl
        have hs := hsn
        have hd := hdn
        have hs1 : (s : Int) < (n : Int) := by omega
        have hs0 : (0 : Int) ≤ (s : Int) := by omega
        have hd1 : (d : Int) < (n : Int) := by omega
        have hd0 : (0 : Int) ≤ (d : Int) := by omega
        rw [HK0.out]
        go_upto_region 8 with fail
        go_cut [65, 66] from 36 (fun s65 s66 wx => s65 = undef ∧ s66 = undef ∧ Hid (MsX w.heap.size w.heap.size q g n co j u9 w s d c ((us.set s x.mv1).set d (x.mv2 y)) wx))
        case first =>
          refine wp_region_held_drew (S := fun w' => Nb w' q (.cells #[.int .i64 (s : Int), .int .i64 (d : Int)] 37 (0, 0)) ∧ CfgAt w' w.heap.size c ∧ True) (by kernel_rfl) HX.out.cls (fun hS => ?_)
          generalize hwn : w2.drew = w4 at *
          clear hwn
          refine wpAnyH_take (i := 0) (v := ?v0_1) rfl (by kernel_rfl) (by kernel_rfl) (by kernel_rfl) (fun _ _ _ h => h) (Or.inl ⟨by rfl, ?y0_1⟩) hS ?z0_1
          case y0_1 => intro w hSw; (try dsimp only at hSw); go_simp; (try with_reducible rfl)
          try simp only [Act.put, List.getElem_toArray, List.getElem_cons_succ, List.getElem_cons_zero, List.setIfInBounds_toArray, List.set_cons_zero, List.set_cons_succ]
          refine wpAnyH_take (i := 1) (v := ?v1_2) rfl (by kernel_rfl) (by kernel_rfl) (by kernel_rfl) (fun _ _ _ h => h) (Or.inl ⟨by rfl, ?y1_2⟩) hS ?z1_2
          case y1_2 => intro w hSw; (try dsimp only at hSw); go_simp; (try with_reducible rfl)
          try simp only [Act.put, List.getElem_toArray, List.getElem_cons_succ, List.getElem_cons_zero, List.setIfInBounds_toArray, List.set_cons_zero, List.set_cons_succ]
          refine wpAnyH_take (i := 2) (v := ?v2_3) rfl (by kernel_rfl) (by kernel_rfl) (by kernel_rfl) (fun _ _ _ h => h) (Or.inl ⟨by rfl, ?y2_3⟩) hS ?z2_3
          case y2_3 => intro w hSw; have e := (hSw.1).cell (i := 0); simp only [List.getElem?_toArray, List.getElem?_cons_zero, List.getElem?_cons_succ] at e; clear hSw; go_simp; (try with_reducible rfl)
          try simp only [Act.put, List.getElem_toArray, List.getElem_cons_succ, List.getElem_cons_zero, List.setIfInBounds_toArray, List.set_cons_zero, List.set_cons_succ]
          refine wpAnyH_take (i := 3) (v := ?v3_4) rfl (by kernel_rfl) (by kernel_rfl) (by kernel_rfl) (fun _ _ _ h => h) (Or.inl ⟨by rfl, ?y3_4⟩) hS ?z3_4
          case y3_4 => intro w hSw; (try dsimp only at hSw); go_simp; (try with_reducible rfl)
          try simp only [Act.put, List.getElem_toArray, List.getElem_cons_succ, List.getElem_cons_zero, List.setIfInBounds_toArray, List.set_cons_zero, List.set_cons_succ]
          refine wpAnyH_take (i := 4) (v := ?v4_5) rfl (by kernel_rfl) (by kernel_rfl) (by kernel_rfl) (fun _ _ _ h => h) (Or.inl ⟨by rfl, ?y4_5⟩) hS ?z4_5
          case y4_5 => intro w hSw; (try dsimp only at hSw); go_simp; (try with_reducible rfl)
          try simp only [Act.put, List.getElem_toArray, List.getElem_cons_succ, List.getElem_cons_zero, List.setIfInBounds_toArray, List.set_cons_zero, List.set_cons_succ]
          refine wpAnyH_take (i := 5) (v := ?v5_6) rfl (by kernel_rfl) (by kernel_rfl) (by kernel_rfl) (fun _ _ _ h => h) (Or.inl ⟨by rfl, ?y5_6⟩) hS ?z5_6
          case y5_6 => intro w hSw; have e := (hSw.1).cell (i := 1); simp only [List.getElem?_toArray, List.getElem?_cons_zero, List.getElem?_cons_succ] at e; clear hSw; go_simp; (try with_reducible rfl)
          try simp only [Act.put, List.getElem_toArray, List.getElem_cons_succ, List.getElem_cons_zero, List.setIfInBounds_toArray, List.set_cons_zero, List.set_cons_succ]
          refine wpAnyH_take (i := 6) (v := ?v6_7) rfl (by kernel_rfl) (by kernel_rfl) (by kernel_rfl) (fun _ _ _ h => h) (Or.inl ⟨by rfl, ?y6_7⟩) hS ?z6_7
          case y6_7 => intro w hSw; (try dsimp only at hSw); go_simp; (try with_reducible rfl)
          try simp only [Act.put, List.getElem_toArray, List.getElem_cons_succ, List.getElem_cons_zero, List.setIfInBounds_toArray, List.set_cons_zero, List.set_cons_succ]
          refine wpAnyH_take (i := 7) (v := ?v7_8) rfl (by kernel_rfl) (by kernel_rfl) (by kernel_rfl) (fun _ _ _ h => h) (Or.inl ⟨by rfl, ?y7_8⟩) hS ?z7_8
          case y7_8 => intro w hSw; (try dsimp only at hSw); go_simp; (try with_reducible rfl)
          try simp only [Act.put, List.getElem_toArray, List.getElem_cons_succ, List.getElem_cons_zero, List.setIfInBounds_toArray, List.set_cons_zero, List.set_cons_succ]
          refine wpAnyH_take (i := 8) (v := ?v8_9) rfl (by kernel_rfl) (by kernel_rfl) (by kernel_rfl) (fun _ _ _ h => h) (Or.inl ⟨by rfl, ?y8_9⟩) hS ?z8_9
          case y8_9 => intro w hSw; have e := (hSw.1).cell (i := 0); simp only [List.getElem?_toArray, List.getElem?_cons_zero, List.getElem?_cons_succ] at e; clear hSw; go_simp; (try with_reducible rfl)
          try simp only [Act.put, List.getElem_toArray, List.getElem_cons_succ, List.getElem_cons_zero, List.setIfInBounds_toArray, List.set_cons_zero, List.set_cons_succ]
          refine wpAnyH_take (i := 9) (v := ?v9_10) rfl (by kernel_rfl) (by kernel_rfl) (by kernel_rfl) (fun _ _ _ h => h) (Or.inl ⟨by rfl, ?y9_10⟩) hS ?z9_10
          case y9_10 => intro w hSw; (try dsimp only at hSw); go_simp; (try with_reducible rfl)
          try simp only [Act.put, List.getElem_toArray, List.getElem_cons_succ, List.getElem_cons_zero, List.setIfInBounds_toArray, List.set_cons_zero, List.set_cons_succ]
          refine wpAnyH_take (i := 11) (v := ?v11_11) rfl (by kernel_rfl) (by kernel_rfl) (by kernel_rfl) (fun _ _ _ h => h) (Or.inl ⟨by rfl, ?y11_11⟩) hS ?z11_11
          case y11_11 => intro w hSw; (try dsimp only at hSw); go_simp; (try with_reducible rfl)
          try simp only [Act.put, List.getElem_toArray, List.getElem_cons_succ, List.getElem_cons_zero, List.setIfInBounds_toArray, List.set_cons_zero, List.set_cons_succ]
          refine wpAnyH_take (i := 12) (v := ?v12_12) rfl (by kernel_rfl) (by kernel_rfl) (by kernel_rfl) (fun _ _ _ h => h) (Or.inl ⟨by rfl, ?y12_12⟩) hS ?z12_12
          case y12_12 => intro w hSw; (try dsimp only at hSw); go_simp; (try with_reducible rfl)
          try simp only [Act.put, List.getElem_toArray, List.getElem_cons_succ, List.getElem_cons_zero, List.setIfInBounds_toArray, List.set_cons_zero, List.set_cons_succ]
          refine wpAnyH_take (i := 13) (v := ?v13_13) rfl (by kernel_rfl) (by kernel_rfl) (by kernel_rfl) (fun _ _ _ h => h) (Or.inl ⟨by rfl, ?y13_13⟩) hS ?z13_13
          case y13_13 => intro w hSw; have e := (hSw.1).cell (i := 1); simp only [List.getElem?_toArray, List.getElem?_cons_zero, List.getElem?_cons_succ] at e; clear hSw; go_simp; (try with_reducible rfl)
          try simp only [Act.put, List.getElem_toArray, List.getElem_cons_succ, List.getElem_cons_zero, List.setIfInBounds_toArray, List.set_cons_zero, List.set_cons_succ]
          refine wpAnyH_take (i := 14) (v := ?v14_14) rfl (by kernel_rfl) (by kernel_rfl) (by kernel_rfl) (fun _ _ _ h => h) (Or.inl ⟨by rfl, ?y14_14⟩) hS ?z14_14
          case y14_14 => intro w hSw; (try dsimp only at hSw); go_simp; (try with_reducible rfl)
          try simp only [Act.put, List.getElem_toArray, List.getElem_cons_succ, List.getElem_cons_zero, List.setIfInBounds_toArray, List.set_cons_zero, List.set_cons_succ]
          refine wpAnyH_take (i := 16) rfl (by kernel_rfl) (by kernel_rfl) (by kernel_rfl) (fun _ _ _ h => h) (yieldsIf_load_nb rfl 26 (.tmp 5) rfl w.heap.size 26 c.list.toArray rfl (fun w h => h.2.1) _ Try.underlying26 rfl (by show _ = some 20; kernel_rfl)) hS ?_
          try simp only [Act.put, List.getElem_toArray, List.getElem_cons_succ, List.getElem_cons_zero, List.setIfInBounds_toArray, List.set_cons_zero, List.set_cons_succ]
          refine wpAnyH_ready (rs := [10, 15]) (by kernel_rfl) (by simp) (AllReadyH.cons rfl (fun K hK => ?_) (AllReadyH.cons rfl (fun K hK => ?_) AllReadyH.nil))
          · refine step_load_part x.list 24 (.tmp 46) rfl rfl rfl (HAX.out _ HX.out).1 _ Try.underlying24 rfl x.infoL ?_
            refine hK.out _ _ HX.out.cls (fun hS => ?_)
            clear hK K
            try simp only [Act.put, List.getElem_toArray, List.getElem_cons_succ, List.getElem_cons_zero, List.setIfInBounds_toArray, List.set_cons_zero, List.set_cons_succ]
            refine wpAnyH_ready (rs := [15]) (by kernel_rfl) (by simp) (AllReadyH.cons rfl (fun K hK => ?_) AllReadyH.nil)
            refine step_load_part y.list 24 (.tmp 51) rfl rfl rfl (HAX.out _ HX.out).2 _ Try.underlying24 rfl y.infoL ?_
            refine hK.out _ _ HX.out.cls (fun hS => ?_)
            clear hK K
            try simp only [Act.put, List.getElem_toArray, List.getElem_cons_succ, List.getElem_cons_zero, List.setIfInBounds_toArray, List.set_cons_zero, List.set_cons_succ]
            refine wpAnyH_ready (rs := [17]) (by kernel_rfl) (by simp) (AllReadyH.cons rfl (fun K hK => ?_) AllReadyH.nil)
            go_simp
            refine (HA.out _).mono ?_
            rintro en w5 ⟨rfl, hb⟩
            have HX5 := Lib.hid (HX.out.call hb)
            clear hb
            refine hK.out _ _ HX5.out.cls (fun hS => ?_)
            clear hK K
            try simp only [Act.put, List.getElem_toArray, List.getElem_cons_succ, List.getElem_cons_zero, List.setIfInBounds_toArray, List.set_cons_zero, List.set_cons_succ]
            refine wpAnyH_take (i := 18) (v := ?v18_15) rfl (by kernel_rfl) (by kernel_rfl) (by kernel_rfl) (fun _ _ _ h => h) (Or.inl ⟨by rfl, ?y18_15⟩) hS ?z18_15
            case y18_15 => intro w hSw; (try dsimp only at hSw); go_simp; (try with_reducible rfl)
            try simp only [Act.put, List.getElem_toArray, List.getElem_cons_succ, List.getElem_cons_zero, List.setIfInBounds_toArray, List.set_cons_zero, List.set_cons_succ]
            refine wpAnyH_take (i := 19) (v := ?v19_16) rfl (by kernel_rfl) (by kernel_rfl) (by kernel_rfl) (fun _ _ _ h => h) (Or.inl ⟨by rfl, ?y19_16⟩) hS ?z19_16
            case y19_16 => intro w hSw; (try dsimp only at hSw); go_simp; (try with_reducible rfl)
            try simp only [Act.put, List.getElem_toArray, List.getElem_cons_succ, List.getElem_cons_zero, List.setIfInBounds_toArray, List.set_cons_zero, List.set_cons_succ]
            refine wpAnyH_take (i := 20) (v := ?v20_17) rfl (by kernel_rfl) (by kernel_rfl) (by kernel_rfl) (fun _ _ _ h => h) (Or.inl ⟨by rfl, ?y20_17⟩) hS ?z20_17
            case y20_17 => intro w hSw; (try dsimp only at hSw); go_simp; (try with_reducible rfl)
            try simp only [Act.put, List.getElem_toArray, List.getElem_cons_succ, List.getElem_cons_zero, List.setIfInBounds_toArray, List.set_cons_zero, List.set_cons_succ]
            refine wpAnyH_take (i := 21) (v := ?v21_18) rfl (by kernel_rfl) (by kernel_rfl) (by kernel_rfl) (fun _ _ _ h => h) (Or.inl ⟨by rfl, ?y21_18⟩) hS ?z21_18
            case y21_18 => intro w hSw; (try dsimp only at hSw); go_simp; (try with_reducible rfl)
            try simp only [Act.put, List.getElem_toArray, List.getElem_cons_succ, List.getElem_cons_zero, List.setIfInBounds_toArray, List.set_cons_zero, List.set_cons_succ]
            refine wpAnyH_take (i := 22) (v := ?v22_19) rfl (by kernel_rfl) (by kernel_rfl) (by kernel_rfl) (fun _ _ _ h => h) (Or.inl ⟨by rfl, ?y22_19⟩) hS ?z22_19
            case y22_19 => intro w hSw; (try dsimp only at hSw); go_simp; (try with_reducible rfl)
            try simp only [Act.put, List.getElem_toArray, List.getElem_cons_succ, List.getElem_cons_zero, List.setIfInBounds_toArray, List.set_cons_zero, List.set_cons_succ]
            refine wpAnyH_ready (rs := [23]) (by kernel_rfl) (by simp) (AllReadyH.cons rfl (fun K hK => ?_) AllReadyH.nil)
            refine step_store_part x.mv1.list.toArray 24 (.tmp 58) (.tmp 55) rfl rfl rfl rfl (HX5.out.there hs) x.mv1.info x.mv1.oneA ?_
            have HX6 := Lib.hid (HX5.out.put hs x.mv1)
            generalize hwn : World.setCells w5 _ _ _ = w6 at HX6 ⊢
            clear hwn HX5
            refine hK.out _ _ HX6.out.cls (fun hS => ?_)
            clear hK K
            try simp only [Act.put, List.getElem_toArray, List.getElem_cons_succ, List.getElem_cons_zero, List.setIfInBounds_toArray, List.set_cons_zero, List.set_cons_succ]
            refine wpAnyH_take (i := 24) (v := ?v24_20) rfl (by kernel_rfl) (by kernel_rfl) (by kernel_rfl) (fun _ _ _ h => h) (Or.inl ⟨by rfl, ?y24_20⟩) hS ?z24_20
            case y24_20 => intro w hSw; (try dsimp only at hSw); go_simp; (try with_reducible rfl)
            try simp only [Act.put, List.getElem_toArray, List.getElem_cons_succ, List.getElem_cons_zero, List.setIfInBounds_toArray, List.set_cons_zero, List.set_cons_succ]
            refine wpAnyH_ready (rs := [25]) (by kernel_rfl) (by simp) (AllReadyH.cons rfl (fun K hK => ?_) AllReadyH.nil)
            refine step_store_part (x.mv2 y).list.toArray 24 (.tmp 59) (.tmp 56) rfl rfl rfl rfl (HX6.out.there hd) (x.mv2 y).info (x.mv2 y).oneA ?_
            have HX7 := Lib.hid (HX6.out.put hd (x.mv2 y))
            generalize hwn : World.setCells w6 _ _ _ = w7 at HX7 ⊢
            clear hwn HX6
            refine hK.out _ _ HX7.out.cls (fun hS => ?_)
            clear hK K
            try simp only [Act.put, List.getElem_toArray, List.getElem_cons_succ, List.getElem_cons_zero, List.setIfInBounds_toArray, List.set_cons_zero, List.set_cons_succ]
            refine wpAnyH_done (by kernel_rfl) ?_ _
            go_wp2_with fail
            go_meet
            exact ⟨rfl, rfl, HX7⟩
          · refine step_load_part y.list 24 (.tmp 51) rfl rfl rfl (HAX.out _ HX.out).2 _ Try.underlying24 rfl y.infoL ?_
            refine hK.out _ _ HX.out.cls (fun hS => ?_)
            clear hK K
            try simp only [Act.put, List.getElem_toArray, List.getElem_cons_succ, List.getElem_cons_zero, List.setIfInBounds_toArray, List.set_cons_zero, List.set_cons_succ]
            refine wpAnyH_ready (rs := [10]) (by kernel_rfl) (by simp) (AllReadyH.cons rfl (fun K hK => ?_) AllReadyH.nil)
            refine step_load_part x.list 24 (.tmp 46) rfl rfl rfl (HAX.out _ HX.out).1 _ Try.underlying24 rfl x.infoL ?_
            refine hK.out _ _ HX.out.cls (fun hS => ?_)
            clear hK K
            try simp only [Act.put, List.getElem_toArray, List.getElem_cons_succ, List.getElem_cons_zero, List.setIfInBounds_toArray, List.set_cons_zero, List.set_cons_succ]
            refine wpAnyH_ready (rs := [17]) (by kernel_rfl) (by simp) (AllReadyH.cons rfl (fun K hK => ?_) AllReadyH.nil)
            go_simp
            refine (HA.out _).mono ?_
            rintro en w5 ⟨rfl, hb⟩
            have HX5 := Lib.hid (HX.out.call hb)
            clear hb
            refine hK.out _ _ HX5.out.cls (fun hS => ?_)
            clear hK K
            try simp only [Act.put, List.getElem_toArray, List.getElem_cons_succ, List.getElem_cons_zero, List.setIfInBounds_toArray, List.set_cons_zero, List.set_cons_succ]
            refine wpAnyH_take (i := 18) (v := ?v18_21) rfl (by kernel_rfl) (by kernel_rfl) (by kernel_rfl) (fun _ _ _ h => h) (Or.inl ⟨by rfl, ?y18_21⟩) hS ?z18_21
            case y18_21 => intro w hSw; (try dsimp only at hSw); go_simp; (try with_reducible rfl)
            try simp only [Act.put, List.getElem_toArray, List.getElem_cons_succ, List.getElem_cons_zero, List.setIfInBounds_toArray, List.set_cons_zero, List.set_cons_succ]
            refine wpAnyH_take (i := 19) (v := ?v19_22) rfl (by kernel_rfl) (by kernel_rfl) (by kernel_rfl) (fun _ _ _ h => h) (Or.inl ⟨by rfl, ?y19_22⟩) hS ?z19_22
            case y19_22 => intro w hSw; (try dsimp only at hSw); go_simp; (try with_reducible rfl)
            try simp only [Act.put, List.getElem_toArray, List.getElem_cons_succ, List.getElem_cons_zero, List.setIfInBounds_toArray, List.set_cons_zero, List.set_cons_succ]
            refine wpAnyH_take (i := 20) (v := ?v20_23) rfl (by kernel_rfl) (by kernel_rfl) (by kernel_rfl) (fun _ _ _ h => h) (Or.inl ⟨by rfl, ?y20_23⟩) hS ?z20_23
            case y20_23 => intro w hSw; (try dsimp only at hSw); go_simp; (try with_reducible rfl)
            try simp only [Act.put, List.getElem_toArray, List.getElem_cons_succ, List.getElem_cons_zero, List.setIfInBounds_toArray, List.set_cons_zero, List.set_cons_succ]
            refine wpAnyH_take (i := 21) (v := ?v21_24) rfl (by kernel_rfl) (by kernel_rfl) (by kernel_rfl) (fun _ _ _ h => h) (Or.inl ⟨by rfl, ?y21_24⟩) hS ?z21_24
            case y21_24 => intro w hSw; (try dsimp only at hSw); go_simp; (try with_reducible rfl)
            try simp only [Act.put, List.getElem_toArray, List.getElem_cons_succ, List.getElem_cons_zero, List.setIfInBounds_toArray, List.set_cons_zero, List.set_cons_succ]
            refine wpAnyH_take (i := 22) (v := ?v22_25) rfl (by kernel_rfl) (by kernel_rfl) (by kernel_rfl) (fun _ _ _ h => h) (Or.inl ⟨by rfl, ?y22_25⟩) hS ?z22_25
            case y22_25 => intro w hSw; (try dsimp only at hSw); go_simp; (try with_reducible rfl)
            try simp only [Act.put, List.getElem_toArray, List.getElem_cons_succ, List.getElem_cons_zero, List.setIfInBounds_toArray, List.set_cons_zero, List.set_cons_succ]
            refine wpAnyH_ready (rs := [23]) (by kernel_rfl) (by simp) (AllReadyH.cons rfl (fun K hK => ?_) AllReadyH.nil)
            refine step_store_part x.mv1.list.toArray 24 (.tmp 58) (.tmp 55) rfl rfl rfl rfl (HX5.out.there hs) x.mv1.info x.mv1.oneA ?_
            have HX6 := Lib.hid (HX5.out.put hs x.mv1)
            generalize hwn : World.setCells w5 _ _ _ = w6 at HX6 ⊢
            clear hwn HX5
            refine hK.out _ _ HX6.out.cls (fun hS => ?_)
            clear hK K
            try simp only [Act.put, List.getElem_toArray, List.getElem_cons_succ, List.getElem_cons_zero, List.setIfInBounds_toArray, List.set_cons_zero, List.set_cons_succ]
            refine wpAnyH_take (i := 24) (v := ?v24_26) rfl (by kernel_rfl) (by kernel_rfl) (by kernel_rfl) (fun _ _ _ h => h) (Or.inl ⟨by rfl, ?y24_26⟩) hS ?z24_26
            case y24_26 => intro w hSw; (try dsimp only at hSw); go_simp; (try with_reducible rfl)
            try simp only [Act.put, List.getElem_toArray, List.getElem_cons_succ, List.getElem_cons_zero, List.setIfInBounds_toArray, List.set_cons_zero, List.set_cons_succ]
            refine wpAnyH_ready (rs := [25]) (by kernel_rfl) (by simp) (AllReadyH.cons rfl (fun K hK => ?_) AllReadyH.nil)
            refine step_store_part (x.mv2 y).list.toArray 24 (.tmp 59) (.tmp 56) rfl rfl rfl rfl (HX6.out.there hd) (x.mv2 y).info (x.mv2 y).oneA ?_
            have HX7 := Lib.hid (HX6.out.put hd (x.mv2 y))
            generalize hwn : World.setCells w6 _ _ _ = w7 at HX7 ⊢
            clear hwn HX6
            refine hK.out _ _ HX7.out.cls (fun hS => ?_)
            clear hK K
            try simp only [Act.put, List.getElem_toArray, List.getElem_cons_succ, List.getElem_cons_zero, List.setIfInBounds_toArray, List.set_cons_zero, List.set_cons_succ]
            refine wpAnyH_done (by kernel_rfl) ?_ _
            go_wp2_with fail
            go_meet
            exact ⟨rfl, rfl, HX7⟩
        case rest =>
          obtain ⟨rfl, rfl, hcut⟩ := hcut
          have HI2 : Hid (MsI w.heap.size w.heap.size w c n j ((us.set s x.mv1).set d (x.mv2 y)) (.slice (some ⟨g, 0, none⟩) n co) u9 wc) := ⟨hcut.out.hc, hcut.out.hb, hcut.out.own, hcut.out.dn, Nat.le_refl _⟩
          clear hcut HX HAX HA
          obtain ⟨bs, hbs⟩ := HI2.out.dn
          have HD := Lib.hid hbs
          have hB2 := HI2.out.hb.size
          clear hbs
          go_wp2_with (first | (at_builtin; go_must (refine wpList_append1 (w := wc) 44 HD.out (.bool false) Try.underlying44 Try.infoB rfl (by omega) (by omega) hB2 rfl rfl rfl rfl rfl ?_)) | fail)
          intro vd' w3 hown3 hg3
          have HI3 := Lib.hid (HI2.out.more HD.out hg3 ⟨bs ++ [true], by simpa using hown3⟩)
          clear hown3 hg3 HI2 HD
          go_wp2_with fail
          go_roundg (k - (j + 1))
          case measure => have := HJ.out; omega
          case rel => exact ⟨j + 1, by have := HJ.out; omega, by go_num, by rw [hU2.out]; exact HI3⟩
      · have hk1 : (reqCode us a b c == 0) = false := by simpa using hk0
        have HU' : Hid ((mfold c vs (ps.take (j + 1))) = us) := by rw [Hid, HU.out, mstep_no hk0]
        clear hk0 HU
        obtain ⟨bs, hbs⟩ := HI2.out.dn
        have HD := Lib.hid hbs
        have hB2 := HI2.out.hb.size
        clear hbs
        go_wp2_with (first | (at_builtin; go_must (refine wpList_append1 (w := w2) 44 HD.out (.bool false) Try.underlying44 Try.infoB rfl (by omega) (by omega) hB2 rfl rfl rfl rfl rfl ?_)) | fail)
        intro vd' w3 hown3 hg3
        have HI3 := Lib.hid (HI2.out.more HD.out hg3 ⟨bs ++ [false], by simpa using hown3⟩)
        clear hown3 hg3 HI2 HD
        go_wp2_with fail
        go_roundg (k - (j + 1))
        case measure => have := HJ.out; omega
        case rel => exact ⟨j + 1, by have := HJ.out; omega, by go_num, by rw [HU'.out]; exact HI3⟩
    · obtain rfl : j = k := by have := HJ.out; omega
      go_wp2_with fail
      go_ret2
      exact ⟨Ao, co, _, rfl, row_of_own Val.len (by decide) HI.out.own, HI.out.hb⟩

set_option maxHeartbeats 4000000 in
theorem mstep_none (vs : List Val) (A : Option Addr) (n cap capq : Nat) (c : Cfg) (w : World) (hR : Vals w A n vs) (hn : n ≤ 60) (hmg : 0 ≤ c.merges ∧ c.merges ≤ 4096) :
    Calls Try.prog 17 #[.slice A n cap, .slice none 0 capq, .agg c.list.toArray] w (StepPost n vs w) := by
  have HC0 := Lib.hid (CfgAt.new w c)
  have HB0 := Lib.hid ((Below.refl w.heap.size w).alloc (Nat.le_refl _) (.cells c.list.toArray 26))
  have HCl := Lib.hid (clone_any vs A n cap _ (hR.alloc (.cells c.list.toArray 26)) (by omega))
  have hmin : (if c.merges < (0 : Int) then c.merges else (0 : Int)) = 0 := by split <;> omega
  clear hR
  go_enter Try.func17, Try.ntmps17
  go_wp2_with fail
  refine HCl.out.mono ?_
  rintro en w1 ⟨vo, rfl, hown, hb⟩
  obtain ⟨Ao, co, rfl⟩ := own_slice hown
  have e17' := (HC0.out.call hb).c17
  have HB1 := Lib.hid (HB0.out.trans (hb.mono HB0.out.size))
  have HR1 := Lib.hid (row_of_own Val.len (by decide) hown)
  clear hown hb HC0 HB0 HCl
  go_wp2_with fail
  refine wp_loop_rounds 1 ?_
  rw [rounds_succ]
  go_wp2_with fail
  go_ret2
  exact ⟨Ao, co, _, rfl, HR1.out, HB1.out⟩

set_option maxHeartbeats 4000000 in
theorem mstep_zero (ad : Addr) (vs : List Val) (A : Option Addr) (n cap capq : Nat) (c : Cfg) (w : World) (hR : Vals w A n vs) (hn : n ≤ 60) (hmg : 0 ≤ c.merges ∧ c.merges ≤ 4096) :
    Calls Try.prog 17 #[.slice A n cap, .slice (some ad) 0 capq, .agg c.list.toArray] w (StepPost n vs w) := by
  have HC0 := Lib.hid (CfgAt.new w c)
  have HB0 := Lib.hid ((Below.refl w.heap.size w).alloc (Nat.le_refl _) (.cells c.list.toArray 26))
  have HCl := Lib.hid (clone_any vs A n cap _ (hR.alloc (.cells c.list.toArray 26)) (by omega))
  have hmin : (if c.merges < (0 : Int) then c.merges else (0 : Int)) = 0 := by split <;> omega
  clear hR
  go_enter Try.func17, Try.ntmps17
  go_wp2_with fail
  refine HCl.out.mono ?_
  rintro en w1 ⟨vo, rfl, hown, hb⟩
  obtain ⟨Ao, co, rfl⟩ := own_slice hown
  have e17' := (HC0.out.call hb).c17
  have HB1 := Lib.hid (HB0.out.trans (hb.mono HB0.out.size))
  have HR1 := Lib.hid (row_of_own Val.len (by decide) hown)
  clear hown hb HC0 HB0 HCl
  go_wp2_with fail
  refine wp_loop_rounds 1 ?_
  rw [rounds_succ]
  go_wp2_with fail
  go_ret2
  exact ⟨Ao, co, _, rfl, HR1.out, HB1.out⟩

/-- Step, whatever the list and the queue. -/
theorem mstep_any (vs : List Val) (A : Option Addr) (n cap : Nat) (ps : List (Int × Int)) (Aq : Option Addr) (m capq : Nat) (c : Cfg) (w : World) (hR : Vals w A n vs) (hn : n ≤ 60) (hok : AllOk vs) (hm : c.maxBal ≤ 1152921504606846976)
    (hq : Row pairL w Aq m ps) (hm6 : m ≤ 60) (hcq : m ≤ capq) (hmg : 0 ≤ c.merges ∧ c.merges ≤ 4096) :
    Calls Try.prog 17 #[.slice A n cap, .slice Aq m capq, .agg c.list.toArray] w (StepPost n (mfold c vs (ps.take (min m c.merges.toNat))) w) := by
  obtain ⟨h1, h2⟩ := hq
  cases Aq with
  | none =>
    have hps : ps = [] := by
      rcases h2 with h2 | ⟨b, o, h2, _⟩
      · exact h2
      · cases h2
    subst hps
    have hm0 : m = 0 := by simpa using h1
    subst hm0
    simpa [mfold] using mstep_none vs A n cap capq c w hR hn hmg
  | some ad =>
    by_cases hps : ps = []
    · subst hps
      have hm0 : m = 0 := by simpa using h1
      subst hm0
      simpa [mfold] using mstep_zero ad vs A n cap capq c w hR hn hmg
    · rcases h2 with h2 | ⟨b, o, h2, hb, hr⟩
      · exact absurd h2 hps
      · cases h2
        exact mstep_some vs A n cap ps b o m capq _ c w hR hn hok hm hr hb h1 hm6 hcq rfl hmg

end Go.Proofs.Ytgmbgomlicamdaa
