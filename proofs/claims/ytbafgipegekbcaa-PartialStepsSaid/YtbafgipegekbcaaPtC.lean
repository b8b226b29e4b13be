/- Chapter 17: the closure of Step. -/
import Derived.Test.YtbafgipegekbcaaPtB
import Derived.Deep.Cut
namespace Go.Proofs.Ytbafgipegekbcaa
open Go.RowKit
set_option linter.unusedSimpArgs false
set_option linter.unusedVariables false
set_option maxRecDepth 20000

/-- A payment; a request. -/
structure Pay where
  idx : Int
  amt : Int
  full : Bool
deriving DecidableEq
def Pay.list (p : Pay) : List Value := [.int .i64 p.idx, .int .u64 p.amt, .bool p.full]
theorem Pay.len (p : Pay) : p.list.length = 3 := rfl
theorem Pay.one (p : Pay) : ∀ x ∈ p.list, x.oneCell' = true := by
  intro x hx
  simp only [Pay.list, List.mem_cons, List.not_mem_nil, or_false] at hx
  rcases hx with h | h | h <;> (rw [h]; rfl)
theorem Pay.info (p : Pay) : (Try.prog.info? 37).map (·.size) = some p.list.toArray.size := by
  show _ = some 3
  kernel_rfl
theorem Pay.infoL (p : Pay) : (Try.prog.info? 37).map (·.size) = some p.list.length := by
  show _ = some 3
  kernel_rfl
theorem Try.infoP : (Try.prog.info? 37).map (fun i => (i.zero, i.size, i.bytes)) = some (some (.agg (Pay.list ⟨0, 0, false⟩).toArray), 3, 24) := by kernel_rfl
structure Req where
  idx : Int
  amt : Int
def Req.list (r : Req) : List Value := [.int .i64 r.idx, .int .u64 r.amt]
theorem Req.len (r : Req) : r.list.length = 2 := rfl
def Req.Ok (r : Req) : Prop := 0 ≤ r.amt ∧ r.amt ≤ 18446744073709551615

theorem own_ne {w : World} {base base' size size' n n' : Nat} {e e' : TypeId} {v v' : Value} {xs xs' : List Value} (h : w.ownsRow base e size v n xs) (h' : w.ownsRow base' e' size' v' n' xs') (hne : e ≠ e') : v.ownBlock = none ∨ v.ownBlock ≠ v'.ownBlock := by
  rcases h'.2 with ⟨rfl, _⟩ | ⟨g', cap, cur, rfl, _, hh, _⟩
  · cases hv : v.ownBlock with
    | none => exact .inl rfl
    | some k => right; simp [Value.ownBlock]
  · exact .inr (own_nb_ne h (show Nb w g' _ from hh) hne)
theorem own_call {w w' : World} {base size n : Nat} {e : TypeId} {v : Value} {xs : List Value} (h : w.ownsRow base e size v n xs) (hb : Below w.heap.size w w') : w'.ownsRow base e size v n xs :=
  h.kept (row := none) ⟨hb.os, hb.tape, hb.output, hb.size, fun k hk _ => hb.block k hk⟩ (by cases hv : v.ownBlock <;> simp)
theorem own_setRow {w : World} {base size n g : Nat} {e : TypeId} {v : Value} {xs : List Value} (h : w.ownsRow base e size v n xs) (cs : Array Value) (hg : v.ownBlock ≠ some g) : (w.setRow g cs).ownsRow base e size v n xs :=
  h.kept (row := some g) ⟨rfl, rfl, rfl, by simp [World.setRow], fun k hk hne => setRow_other w g k cs (fun e => hne (by rw [e]))⟩ (.inr hg)

/-- What the closure captures: the list's variable at bo, the configuration at pc, the payments' variable at bp. -/
structure PS (B bo pc bp : Nat) (w0 : World) (c : Cfg) (n : Nat) (vo vp : Value) (us : List Val) (qs : List Pay) (w : World) : Prop where
  ho : Nb w bo (.cells #[vo] 22 (0, 0))
  hc : CfgAt w pc c
  hp : Nb w bp (.cells #[vp] 29 (0, 0))
  oo : w.ownsRow B 35 7 vo n (flat Val.list us)
  op : w.ownsRow B 37 3 vp qs.length (flat Pay.list qs)
  hb : Below B w0 w
  l : B ≤ bo ∧ B ≤ pc ∧ B ≤ bp
theorem PS.call {B bo pc bp n : Nat} {w0 w w' : World} {c : Cfg} {vo vp : Value} {us : List Val} {qs : List Pay} (h : PS B bo pc bp w0 c n vo vp us qs w) (hb : Below w.heap.size w w') : PS B bo pc bp w0 c n vo vp us qs w' :=
  ⟨h.ho.call hb, h.hc.call hb, h.hp.call hb, own_call h.oo hb, own_call h.op hb, h.hb.trans (hb.mono (by have := h.ho.lt; have := h.l; omega)), h.l⟩
/-- An element of the list is written. -/
theorem PS.put {B bo pc bp n g cap : Nat} {w0 w : World} {c : Cfg} {vp : Value} {us : List Val} {qs : List Pay} (h : PS B bo pc bp w0 c n (.slice (some ⟨g, 0, none⟩) n cap) vp us qs w) {s : Nat} (hs : s < n) (v : Val) :
    PS B bo pc bp w0 c n (.slice (some ⟨g, 0, none⟩) n cap) vp (us.set s v) qs (w.setCells g (s * 7) v.list) := by
  obtain ⟨h1, h2⟩ := own_put Val.len (by decide) h.oo s hs v
  have hg : B ≤ g := (h.oo.lt g rfl).1
  have n1 : g ≠ bo := fun e => own_nb_ne h.oo h.ho (by decide) (by rw [e]; rfl)
  have n2 : g ≠ pc := fun e => own_nb_ne h.oo (show Nb w pc _ from h.hc) (by decide) (by rw [e]; rfl)
  have n3 : g ≠ bp := fun e => own_nb_ne h.oo h.hp (by decide) (by rw [e]; rfl)
  exact ⟨(h2.block bo h.ho.lt (fun e => n1 (by cases e; rfl))).trans h.ho, (h2.block pc h.hc.lt (fun e => n2 (by cases e; rfl))).trans h.hc, (h2.block bp h.hp.lt (fun e => n3 (by cases e; rfl))).trans h.hp, h1, h.op.kept h2 (own_ne h.op h.oo (by decide)),
    h.hb.grown h2 (by have := h.ho.lt; have := h.l; omega) (fun k hk => by cases hk; exact hg), h.l⟩
/-- A payment is appended, and the variable set. -/
theorem PS.paid {B bo pc bp n : Nat} {w0 w w' : World} {c : Cfg} {vo vp vp' : Value} {us : List Val} {qs : List Pay} (h : PS B bo pc bp w0 c n vo vp us qs w) (p : Pay) (hg : w.grownBy w' vp.ownBlock) (hn : w'.ownsRow B 37 3 vp' (qs.length + 1) (flat Pay.list (qs ++ [p]))) :
    PS B bo pc bp w0 c n vo vp' us (qs ++ [p]) (w'.setRow bp #[vp']) := by
  have n1 : some bo ≠ vp.ownBlock := fun e => own_nb_ne h.op h.ho (by decide) e.symm
  have n2 : some pc ≠ vp.ownBlock := fun e => own_nb_ne h.op (show Nb w pc _ from h.hc) (by decide) e.symm
  have n3 : some bp ≠ vp.ownBlock := fun e => own_nb_ne h.op h.hp (by decide) e.symm
  have e1 : Nb w' bo _ := (hg.block bo h.ho.lt n1).trans h.ho
  have e2 : CfgAt w' pc c := (hg.block pc h.hc.lt n2).trans h.hc
  have e3 : Nb w' bp _ := (hg.block bp h.hp.lt n3).trans h.hp
  have e4 : w'.ownsRow B 35 7 vo n (flat Val.list us) := h.oo.kept hg (own_ne h.oo h.op (by decide))
  have ne : ∀ {k : Nat} {cs : Array Value} {t : TypeId}, Nb w' k (.cells cs t (0, 0)) → t ≠ 29 → k ≠ bp := by
    intro k cs t hk ht e
    subst e
    have : w'.heap[k]? = _ := hk
    rw [show w'.heap[k]? = _ from e3] at this
    simp only [Option.some.injEq, Obj.cells.injEq] at this
    exact ht this.2.1.symm
  refine ⟨e1.other (ne e1 (by decide)), (setRow_other w' bp pc _ (ne (show Nb w' pc _ from e2) (by decide))).trans e2, Nb.same e3, own_setRow e4 _ (own_nb_ne e4 e3 (by decide)), ?_, below_setRow (h.hb.grown hg (by have := h.ho.lt; have := h.l; omega) (fun k hk => (h.op.lt k hk).1)) h.l.2.2 _, h.l⟩
  rw [List.length_append]
  exact own_setRow hn _ (own_nb_ne hn e3 (by decide))

/-- .. with the request boxed at q, and the element read. -/
structure PR (B bo pc bp q g : Nat) (w0 : World) (c : Cfg) (n cap : Nat) (vp : Value) (us : List Val) (qs : List Pay) (r : Req) (s : Nat) (x : Val) (w : World) : Prop where
  ps : PS B bo pc bp w0 c n (.slice (some ⟨g, 0, none⟩) n cap) vp us qs w
  hq : Nb w q (.cells #[.int .i64 r.idx, .int .u64 r.amt] 49 (0, 0))
  rx : w.rangeAt g (s * 7) x.list
  hs : s < n
  lq : B ≤ q
theorem PR.gl {B bo pc bp q g n cap s : Nat} {w0 w : World} {c : Cfg} {vp : Value} {us : List Val} {qs : List Pay} {r : Req} {x : Val} (h : PR B bo pc bp q g w0 c n cap vp us qs r s x w) : g < w.heap.size := (h.ps.oo.lt g rfl).2
theorem PR.call {B bo pc bp q g n cap s : Nat} {w0 w w' : World} {c : Cfg} {vp : Value} {us : List Val} {qs : List Pay} {r : Req} {x : Val} (h : PR B bo pc bp q g w0 c n cap vp us qs r s x w) (hb : Below w.heap.size w w') : PR B bo pc bp q g w0 c n cap vp us qs r s x w' :=
  ⟨h.ps.call hb, h.hq.call hb, range_call h.rx h.gl hb, h.hs, h.lq⟩
/-- Block k is none of these. -/
def Fresh (bo pc bp q g : Nat) (vp : Value) (B k : Nat) : Prop := k ≠ bo ∧ k ≠ pc ∧ k ≠ bp ∧ k ≠ q ∧ k ≠ g ∧ vp.ownBlock ≠ some k ∧ B ≤ k
theorem PR.lt {B bo pc bp q g n cap s : Nat} {w0 w : World} {c : Cfg} {vp : Value} {us : List Val} {qs : List Pay} {r : Req} {x : Val} (h : PR B bo pc bp q g w0 c n cap vp us qs r s x w) : Fresh bo pc bp q g vp B w.heap.size := by
  have h1 := h.ps.ho.lt; have h2 := h.ps.hc.lt; have h3 := h.ps.hp.lt; have h4 := h.hq.lt; have h5 := h.gl; have h6 := h.ps.l
  refine ⟨by omega, by omega, by omega, by omega, by omega, fun e => ?_, by omega⟩
  have := (h.ps.op.lt _ e).2
  omega
theorem PR.setRow {B bo pc bp q g n cap s k : Nat} {w0 w : World} {c : Cfg} {vp : Value} {us : List Val} {qs : List Pay} {r : Req} {x : Val} (h : PR B bo pc bp q g w0 c n cap vp us qs r s x w) (cs : Array Value) (hk : Fresh bo pc bp q g vp B k) : PR B bo pc bp q g w0 c n cap vp us qs r s x (w.setRow k cs) := by
  obtain ⟨k1, k2, k3, k4, k5, k6, k7⟩ := hk
  exact ⟨⟨h.ps.ho.other (Ne.symm k1), (setRow_other w k pc cs (Ne.symm k2)).trans h.ps.hc, h.ps.hp.other (Ne.symm k3), own_setRow h.ps.oo cs (by intro e; simp [Value.ownBlock] at e; exact k5 e.symm), own_setRow h.ps.op cs k6, below_setRow h.ps.hb k7 _, h.ps.l⟩,
    h.hq.other (Ne.symm k4), fun j v hj => (World.cell?_of_block (w := w) (a := ⟨g, _, none⟩) (setRow_other w k g cs (Ne.symm k5))).trans (h.rx j v hj), h.hs, h.lq⟩

/-- What one request does. -/
def pstep (c : Cfg) (st : List Val × List Pay) (r : Req) : List Val × List Pay :=
  if r.idx < 0 ∨ (st.1.length : Int) ≤ r.idx then st else match st.1[r.idx.toNat]? with
  | some x => (st.1.set r.idx.toNat (x.less (payN x r.amt c)), st.2 ++ [⟨r.idx, payN x r.amt c, false⟩])
  | none => st

def PayPost (B bo pc bp : Nat) (w0 : World) (c : Cfg) (n : Nat) (vo : Value) (us : List Val) (qs : List Pay) (e : Ending) (w' : World) : Prop :=
  e = .returned (.tuple #[]) ∧ ∃ vp', PS B bo pc bp w0 c n vo vp' us qs w'

set_option maxHeartbeats 8000000 in
theorem pay_in {B bo pc bp n g cap : Nat} {w0 w : World} {c : Cfg} {vp : Value} {us : List Val} {qs : List Pay} (h : PS B bo pc bp w0 c n (.slice (some ⟨g, 0, none⟩) n cap) vp us qs w) (s : Nat) (amt : Int) (x : Val) (hs : s < n) (hx : us[s]? = some x) (hxo : x.Ok) (hc : 0 ≤ c.minBal) (ha : 0 ≤ amt) (hn : n ≤ 100) (hq : qs.length ≤ 1000) :
    Calls Try.prog 18 #[.agg #[.int .i64 s, .int .u64 amt], .pointer (some ⟨bo, 0, none⟩), .pointer (some ⟨pc, 0, none⟩), .pointer (some ⟨bp, 0, none⟩)] w
      (PayPost B bo pc bp w0 c n (.slice (some ⟨g, 0, none⟩) n cap) (us.set s (x.less (payN x amt c))) (qs ++ [⟨s, payN x amt c, false⟩])) := by
  have HA := Lib.hid (fun w => apply_any x amt c w hxo hc ha)
  have hrx : w.rangeAt g (s * 7) x.list := by
    obtain ⟨-, h2⟩ := row_of_own Val.len (by decide) h.oo
    have hsl : s < us.length := (List.getElem?_eq_some_iff.1 hx).1
    have hex : us[s] = x := by rw [List.getElem?_eq_getElem hsl] at hx; exact Option.some.inj hx
    rcases h2 with h2 | ⟨b', o', h2, _, hr⟩
    · subst h2; simp at hsl
    · simp only [Option.some.injEq, Addr.mk.injEq] at h2
      obtain ⟨rfl, rfl, -⟩ := h2
      have := Row.elem Val.len hr s hsl
      rw [hex] at this
      simpa using this
  have hbx := (Below.refl w.heap.size w).alloc (Nat.le_refl _) (.cells #[.int .i64 (s : Int), .int .u64 amt] 49)
  have HS : Hid (PR B bo pc bp w.heap.size g w0 c n cap vp us qs ⟨s, amt⟩ s x (w.alloc (.cells #[.int .i64 (s : Int), .int .u64 amt] 49))) :=
    ⟨h.call hbx, Nb.new _ _, range_call hrx (h.oo.lt g rfl).2 hbx, hs, by have := h.ho.lt; have := h.l; omega⟩
  have e0 := HS.out.hq.cell (i := 0)
  have eo := HS.out.ps.ho.cell (i := 0)
  simp only [List.getElem?_toArray, List.getElem?_cons_zero, List.getElem?_cons_succ] at e0 eo
  clear h hx hxo hc ha hrx hbx
  have hs1 : (s : Int) < (n : Int) := by omega
  have hs0 : (0 : Int) ≤ (s : Int) := by omega
  generalize payN x amt c = k at *
  go_enter Try.func18, Try.ntmps18
  go_upto_region 2 with fail
  clear e0 eo
  go_cut [5, 6] from 7 (fun s5 s6 wx => ∃ b5 : Nat, s5 = .pointer (some ⟨b5, 0, none⟩) ∧ s6 = .int .u64 k ∧ Hid (PR B bo pc bp w.heap.size g w0 c n cap vp us qs ⟨s, amt⟩ s x wx) ∧ Hid (ValAt wx b5 (x.less k)) ∧ Hid (Fresh bo pc bp w.heap.size g vp B b5))
  case first =>
    have HSw2 : Hid (PR B bo pc bp w.heap.size g w0 c n cap vp us qs ⟨s, amt⟩ s x (w.alloc (.cells #[.int .i64 (s : Int), .int .u64 amt] 49)).drew) := HS.out.call (below_drewN (Below.refl _ _) 1)
    refine wp_region_held_drew (S := PR B bo pc bp w.heap.size g w0 c n cap vp us qs ⟨s, amt⟩ s x) (by kernel_rfl) HSw2.out (fun hS => ?_)
    clear HS
    generalize hwn : (w.alloc (.cells #[.int .i64 (s : Int), .int .u64 amt] 49)).drew = w2 at *
    clear hwn
    refine wpAnyH_take (i := 0) (v := ?v0_1) rfl (by kernel_rfl) (by kernel_rfl) (by kernel_rfl) (fun _ _ _ h => h) (Or.inl ⟨by rfl, ?y0_1⟩) hS ?z0_1
    case y0_1 => intro w hSw; have e := (hSw.ps.ho).cell (i := 0); simp only [List.getElem?_toArray, List.getElem?_cons_zero] at e; clear hSw; go_simp; (try with_reducible rfl)
    try simp only [Act.put, List.getElem_toArray, List.getElem_cons_succ, List.getElem_cons_zero, List.setIfInBounds_toArray, List.set_cons_zero, List.set_cons_succ]
    refine wpAnyH_take (i := 1) (v := ?v1_2) rfl (by kernel_rfl) (by kernel_rfl) (by kernel_rfl) (fun _ _ _ h => h) (Or.inl ⟨by rfl, ?y1_2⟩) hS ?z1_2
    case y1_2 => intro w hSw; (try dsimp only at hSw); go_simp; (try with_reducible rfl)
    try simp only [Act.put, List.getElem_toArray, List.getElem_cons_succ, List.getElem_cons_zero, List.setIfInBounds_toArray, List.set_cons_zero, List.set_cons_succ]
    refine wpAnyH_take (i := 2) (v := ?v2_3) rfl (by kernel_rfl) (by kernel_rfl) (by kernel_rfl) (fun _ _ _ h => h) (Or.inl ⟨by rfl, ?y2_3⟩) hS ?z2_3
    case y2_3 => intro w hSw; have e := (hSw.hq).cell (i := 0); simp only [List.getElem?_toArray, List.getElem?_cons_zero, List.getElem?_cons_succ] at e; clear hSw; go_simp; (try with_reducible rfl)
    try simp only [Act.put, List.getElem_toArray, List.getElem_cons_succ, List.getElem_cons_zero, List.setIfInBounds_toArray, List.set_cons_zero, List.set_cons_succ]
    refine wpAnyH_take (i := 3) (v := ?v3_4) rfl (by kernel_rfl) (by kernel_rfl) (by kernel_rfl) (fun _ _ _ h => h) (Or.inl ⟨by rfl, ?y3_4⟩) hS ?z3_4
    case y3_4 => intro w hSw; (try dsimp only at hSw); go_simp; (try with_reducible rfl)
    try simp only [Act.put, List.getElem_toArray, List.getElem_cons_succ, List.getElem_cons_zero, List.setIfInBounds_toArray, List.set_cons_zero, List.set_cons_succ]
    refine wpAnyH_take (i := 4) rfl (by kernel_rfl) (by kernel_rfl) (by kernel_rfl) (fun _ _ _ h => h) (yieldsIf_load_mid rfl 35 (.tmp 21) rfl g (s * 7) rfl x.list _ (fun w h => h.rx) Try.underlying35 rfl x.infoL) hS ?_
    try simp only [Act.put, List.getElem_toArray, List.getElem_cons_succ, List.getElem_cons_zero, List.setIfInBounds_toArray, List.set_cons_zero, List.set_cons_succ]
    refine wpAnyH_take (i := 5) (v := ?v5_5) rfl (by kernel_rfl) (by kernel_rfl) (by kernel_rfl) (fun _ _ _ h => h) (Or.inl ⟨by rfl, ?y5_5⟩) hS ?z5_5
    case y5_5 => intro w hSw; (try dsimp only at hSw); go_simp; (try with_reducible rfl)
    try simp only [Act.put, List.getElem_toArray, List.getElem_cons_succ, List.getElem_cons_zero, List.setIfInBounds_toArray, List.set_cons_zero, List.set_cons_succ]
    refine wpAnyH_take (i := 6) (v := ?v6_6) rfl (by kernel_rfl) (by kernel_rfl) (by kernel_rfl) (fun _ _ _ h => h) (Or.inl ⟨by rfl, ?y6_6⟩) hS ?z6_6
    case y6_6 => intro w hSw; have e := (hSw.hq).cell (i := 1); simp only [List.getElem?_toArray, List.getElem?_cons_zero, List.getElem?_cons_succ] at e; clear hSw; go_simp; (try with_reducible rfl)
    try simp only [Act.put, List.getElem_toArray, List.getElem_cons_succ, List.getElem_cons_zero, List.setIfInBounds_toArray, List.set_cons_zero, List.set_cons_succ]
    refine wpAnyH_take (i := 7) rfl (by kernel_rfl) (by kernel_rfl) (by kernel_rfl) (fun _ _ _ h => h) (yieldsIf_load_nb rfl 26 (.tmp 2) rfl pc 26 c.list.toArray rfl (fun w h => h.ps.hc) _ Try.underlying26 rfl (by show _ = some 20; kernel_rfl)) hS ?_
    try simp only [Act.put, List.getElem_toArray, List.getElem_cons_succ, List.getElem_cons_zero, List.setIfInBounds_toArray, List.set_cons_zero, List.set_cons_succ]
    refine wpAnyH_ready (rs := [8, 12]) (by kernel_rfl) (by simp) (AllReadyH.cons rfl (fun K hK => ?_) (AllReadyH.cons rfl (fun K hK => ?_) AllReadyH.nil))
    · go_simp
      refine (HA.out _).mono ?_
      rintro en u1 ⟨rfl, hb⟩
      have HSu1 := Lib.hid (HSw2.out.call hb)
      clear HSw2 hb
      refine hK.out _ _ HSu1.out (fun hS => ?_)
      clear hK K
      try simp only [Act.put, List.getElem_toArray, List.getElem_cons_succ, List.getElem_cons_zero, List.setIfInBounds_toArray, List.set_cons_zero, List.set_cons_succ]
      refine wpAnyH_take (i := 9) (v := ?v9_7) rfl (by kernel_rfl) (by kernel_rfl) (by kernel_rfl) (fun _ _ _ h => h) (Or.inl ⟨by rfl, ?y9_7⟩) hS ?z9_7
      case y9_7 => intro w hSw; (try dsimp only at hSw); go_simp; (try with_reducible rfl)
      try simp only [Act.put, List.getElem_toArray, List.getElem_cons_succ, List.getElem_cons_zero, List.setIfInBounds_toArray, List.set_cons_zero, List.set_cons_succ]
      refine wpAnyH_take (i := 10) (v := ?v10_8) rfl (by kernel_rfl) (by kernel_rfl) (by kernel_rfl) (fun _ _ _ h => h) (Or.inl ⟨by rfl, ?y10_8⟩) hS ?z10_8
      case y10_8 => intro w hSw; (try dsimp only at hSw); go_simp; (try with_reducible rfl)
      try simp only [Act.put, List.getElem_toArray, List.getElem_cons_succ, List.getElem_cons_zero, List.setIfInBounds_toArray, List.set_cons_zero, List.set_cons_succ]
      refine wpAnyH_take (i := 11) (v := ?v11_9) rfl (by kernel_rfl) (by kernel_rfl) (by kernel_rfl) (fun _ _ _ h => h) (Or.inl ⟨by rfl, ?y11_9⟩) hS ?z11_9
      case y11_9 => intro w hSw; (try dsimp only at hSw); go_simp; (try with_reducible rfl)
      try simp only [Act.put, List.getElem_toArray, List.getElem_cons_succ, List.getElem_cons_zero, List.setIfInBounds_toArray, List.set_cons_zero, List.set_cons_succ]
      refine wpAnyH_ready (rs := [12]) (by kernel_rfl) (by simp) (AllReadyH.cons rfl (fun K hK => ?_) AllReadyH.nil)
      go_simp
      change K _ (World.alloc u1 (.cells Val.zero.list.toArray 35))
      have HSu2 := Lib.hid (HSu1.out.call ((Below.refl _ _).alloc (Nat.le_refl _) (.cells Val.zero.list.toArray 35)))
      have H5u2 := Lib.hid (ValAt.new u1 Val.zero)
      have L5 := Lib.hid (HSu1.out.lt)
      generalize hwn : World.alloc u1 _ = u2 at *
      clear hwn HSu1
      refine hK.out _ _ HSu2.out (fun hS => ?_)
      clear hK K
      try simp only [Act.put, List.getElem_toArray, List.getElem_cons_succ, List.getElem_cons_zero, List.setIfInBounds_toArray, List.set_cons_zero, List.set_cons_succ]
      refine wpAnyH_ready (rs := [13]) (by kernel_rfl) (by simp) (AllReadyH.cons rfl (fun K hK => ?_) AllReadyH.nil)
      refine step_store_nb 35 (.tmp 5) (.tmp 27) (x.less k).list.toArray rfl rfl rfl rfl H5u2.out (x.less k).info rfl (x.less k).oneA ?_
      have HSu2b := Lib.hid (HSu2.out.setRow (x.less k).list.toArray L5.out)
      have H5u2b : Hid (ValAt (World.setRow u2 u1.heap.size (x.less k).list.toArray) u1.heap.size (x.less k)) := Nb.same H5u2.out
      generalize hwn : World.setRow u2 _ _ = u2b at *
      clear hwn HSu2 H5u2
      refine hK.out _ _ HSu2b.out (fun hS => ?_)
      clear hK K
      try simp only [Act.put, List.getElem_toArray, List.getElem_cons_succ, List.getElem_cons_zero, List.setIfInBounds_toArray, List.set_cons_zero, List.set_cons_succ]
      refine wpAnyH_take (i := 14) (v := ?v14_10) rfl (by kernel_rfl) (by kernel_rfl) (by kernel_rfl) (fun _ _ _ h => h) (Or.inl ⟨by rfl, ?y14_10⟩) hS ?z14_10
      case y14_10 => intro w hSw; (try dsimp only at hSw); go_simp; (try with_reducible rfl)
      try simp only [Act.put, List.getElem_toArray, List.getElem_cons_succ, List.getElem_cons_zero, List.setIfInBounds_toArray, List.set_cons_zero, List.set_cons_succ]
      refine wpAnyH_done (by kernel_rfl) ?_ _
      go_wp2_with fail
      go_meet
      exact ⟨_, rfl, rfl, HSu2b, H5u2b, L5⟩
    · go_simp
      change K _ (World.alloc w2 (.cells Val.zero.list.toArray 35))
      have HSu3 := Lib.hid (HSw2.out.call ((Below.refl _ _).alloc (Nat.le_refl _) (.cells Val.zero.list.toArray 35)))
      have H5u3 := Lib.hid (ValAt.new w2 Val.zero)
      have L5 := Lib.hid (HSw2.out.lt)
      generalize hwn : World.alloc w2 _ = u3 at *
      clear hwn HSw2
      refine hK.out _ _ HSu3.out (fun hS => ?_)
      clear hK K
      try simp only [Act.put, List.getElem_toArray, List.getElem_cons_succ, List.getElem_cons_zero, List.setIfInBounds_toArray, List.set_cons_zero, List.set_cons_succ]
      refine wpAnyH_ready (rs := [8]) (by kernel_rfl) (by simp) (AllReadyH.cons rfl (fun K hK => ?_) AllReadyH.nil)
      go_simp
      refine (HA.out _).mono ?_
      rintro en u4 ⟨rfl, hb⟩
      have HSu4 := Lib.hid (HSu3.out.call hb)
      have H5u4 := Lib.hid (H5u3.out.call hb)
      clear HSu3 hb H5u3
      refine hK.out _ _ HSu4.out (fun hS => ?_)
      clear hK K
      try simp only [Act.put, List.getElem_toArray, List.getElem_cons_succ, List.getElem_cons_zero, List.setIfInBounds_toArray, List.set_cons_zero, List.set_cons_succ]
      refine wpAnyH_take (i := 9) (v := ?v9_11) rfl (by kernel_rfl) (by kernel_rfl) (by kernel_rfl) (fun _ _ _ h => h) (Or.inl ⟨by rfl, ?y9_11⟩) hS ?z9_11
      case y9_11 => intro w hSw; (try dsimp only at hSw); go_simp; (try with_reducible rfl)
      try simp only [Act.put, List.getElem_toArray, List.getElem_cons_succ, List.getElem_cons_zero, List.setIfInBounds_toArray, List.set_cons_zero, List.set_cons_succ]
      refine wpAnyH_take (i := 10) (v := ?v10_12) rfl (by kernel_rfl) (by kernel_rfl) (by kernel_rfl) (fun _ _ _ h => h) (Or.inl ⟨by rfl, ?y10_12⟩) hS ?z10_12
      case y10_12 => intro w hSw; (try dsimp only at hSw); go_simp; (try with_reducible rfl)
      try simp only [Act.put, List.getElem_toArray, List.getElem_cons_succ, List.getElem_cons_zero, List.setIfInBounds_toArray, List.set_cons_zero, List.set_cons_succ]
      refine wpAnyH_take (i := 11) (v := ?v11_13) rfl (by kernel_rfl) (by kernel_rfl) (by kernel_rfl) (fun _ _ _ h => h) (Or.inl ⟨by rfl, ?y11_13⟩) hS ?z11_13
      case y11_13 => intro w hSw; (try dsimp only at hSw); go_simp; (try with_reducible rfl)
      try simp only [Act.put, List.getElem_toArray, List.getElem_cons_succ, List.getElem_cons_zero, List.setIfInBounds_toArray, List.set_cons_zero, List.set_cons_succ]
      refine wpAnyH_ready (rs := [13]) (by kernel_rfl) (by simp) (AllReadyH.cons rfl (fun K hK => ?_) AllReadyH.nil)
      refine step_store_nb 35 (.tmp 5) (.tmp 27) (x.less k).list.toArray rfl rfl rfl rfl H5u4.out (x.less k).info rfl (x.less k).oneA ?_
      have HSu4b := Lib.hid (HSu4.out.setRow (x.less k).list.toArray L5.out)
      have H5u4b : Hid (ValAt (World.setRow u4 w2.heap.size (x.less k).list.toArray) w2.heap.size (x.less k)) := Nb.same H5u4.out
      generalize hwn : World.setRow u4 _ _ = u4b at *
      clear hwn HSu4 H5u4
      refine hK.out _ _ HSu4b.out (fun hS => ?_)
      clear hK K
      try simp only [Act.put, List.getElem_toArray, List.getElem_cons_succ, List.getElem_cons_zero, List.setIfInBounds_toArray, List.set_cons_zero, List.set_cons_succ]
      refine wpAnyH_take (i := 14) (v := ?v14_14) rfl (by kernel_rfl) (by kernel_rfl) (by kernel_rfl) (fun _ _ _ h => h) (Or.inl ⟨by rfl, ?y14_14⟩) hS ?z14_14
      case y14_14 => intro w hSw; (try dsimp only at hSw); go_simp; (try with_reducible rfl)
      try simp only [Act.put, List.getElem_toArray, List.getElem_cons_succ, List.getElem_cons_zero, List.setIfInBounds_toArray, List.set_cons_zero, List.set_cons_succ]
      refine wpAnyH_done (by kernel_rfl) ?_ _
      go_wp2_with fail
      go_meet
      exact ⟨_, rfl, rfl, HSu4b, H5u4b, L5⟩
  case rest =>
    obtain ⟨b5, rfl, rfl, HS3, H5, L5⟩ := hcut
    clear HS HA
    have e0 := HS3.out.hq.cell (i := 0)
    have eo := HS3.out.ps.ho.cell (i := 0)
    simp only [List.getElem?_toArray, List.getElem?_cons_zero, List.getElem?_cons_succ] at e0 eo
    have HT := Lib.hid (own_there Val.len (by decide) HS3.out.ps.oo s hs)
    go_wp2_with (first | ((with_reducible show wpList _ _ _ (⟨some 32, _, _, _, _, _⟩ :: _) _ _); refine halted ?_) | fail)
    unfold Halted
    refine wpList_load_val (.tmp 5) rfl rfl rfl H5.out ?_
    go_wp2_with (first | ((with_reducible show wpList _ _ _ (⟨none, _, _, _, _, _⟩ :: _) _ _); refine halted ?_) | fail)
    unfold Halted
    refine wpList_store_mid rfl 35 (.tmp 33) (.tmp 32) rfl g (s * 7) (x.less k).list.toArray rfl rfl HT.out (x.less k).info (x.less k).oneA ?_
    go_wp2_with (first | ((with_reducible show wpList _ _ _ (⟨some 34, _, _, _, _, _⟩ :: _) _ _); refine halted ?_) | fail)
    unfold Halted
    have HP := Lib.hid (HS3.out.ps.put hs (x.less k))
    have HQ : Hid (Nb (wc.setCells g (s * 7) (x.less k).list) w.heap.size (.cells #[.int .i64 (s : Int), .int .u64 amt] 49 (0, 0))) := by
      obtain ⟨h1, h2⟩ := own_put Val.len (by decide) HS3.out.ps.oo s hs (x.less k)
      have n1 : g ≠ w.heap.size := fun e => own_nb_ne HS3.out.ps.oo HS3.out.hq (by decide) (by rw [← e]; rfl)
      exact (h2.block _ HS3.out.hq.lt (fun e => n1 (by cases e; rfl))).trans HS3.out.hq
    clear e0 eo HS3 H5 L5 HT
    generalize hwn : World.setCells wc _ _ _ = w3 at HP HQ ⊢
    clear hwn
    have e0 := HQ.out.cell (i := 0)
    have ep := HP.out.hp.cell (i := 0)
    have fp := Nb.frozen (i := 0) HP.out.hp
    simp only [List.getElem?_toArray, List.getElem?_cons_zero, List.getElem?_cons_succ] at e0 ep
    have HOp := Lib.hid (HP.out.op.alloc (.cells #[.int .i64 (s : Int), .int .u64 k, .bool false] 37))
    have HRw : Hid (Row Pay.list (w3.alloc (.cells #[.int .i64 (s : Int), .int .u64 k, .bool false] 37)) (some ⟨w3.heap.size, 0, none⟩) 1 [⟨s, k, false⟩]) := by
      refine ⟨rfl, .inr ⟨_, 0, rfl, by simp, fun j v hj => ?_⟩⟩
      have hn := Nb.new w3 (.cells #[.int .i64 (s : Int), .int .u64 k, .bool false] 37)
      rw [Nat.zero_add, hn.cell]
      rw [flat_one] at hj
      simpa [Pay.list] using hj
    have HBs : Hid (B ≤ w3.heap.size) := by have h1 := HP.out.ho.lt; have h2 := HP.out.l; show B ≤ _; omega
    go_wp2_with (first | ((with_reducible show wpList _ _ _ (⟨some 40, _, _, _, _, _⟩ :: _) _ _); refine halted ?_) | fail)
    unfold Halted
    refine wpList_appendR 29 Pay.len (by decide) Pay.one HOp.out HRw.out (.agg (Pay.list ⟨0, 0, false⟩).toArray) Try.underlying29 Try.infoP rfl (by omega) (by omega) (by have := HBs.out; simp; omega) rfl rfl rfl rfl ?_
    intro vp' w4 hown hgr hat
    obtain ⟨g2, c2, rfl, -, -, -⟩ := own_form hown (by omega)
    have hg3 : w3.grownBy w4 vp.ownBlock := grownBy_of_alloc hgr
    have hbp : w4.heap[bp]? = w3.heap[bp]? := hg3.block bp HP.out.hp.lt (fun e => own_nb_ne HP.out.op HP.out.hp (by decide) e.symm)
    have ep4 := (World.cell?_of_block (w := w3) (w' := w4) (a := ⟨bp, 0, none⟩) hbp).trans ep
    have fp4 := (World.frozen?_of_block (w := w3) (w' := w4) (a := ⟨bp, 0, none⟩) hbp).trans fp
    have HF := Lib.hid (HP.out.paid ⟨s, k, false⟩ hg3 hown)
    have HBp : Hid (Nb w4 bp (.cells #[vp] 29 (0, 0))) := hbp.trans HP.out.hp
    clear hown hgr hat hg3 hbp HP HOp HRw HQ e0 ep fp HBs
    go_wp2_with fail
    refine bodyPost_end (results_none rfl _ _ _) rfl ?_
    refine ⟨rfl, .slice (some ⟨g2, 0, none⟩) (qs.length + 1) c2, ?_⟩
    rw [Nb.set HBp.out]
    exact HF.out

set_option maxHeartbeats 2000000 in
theorem pay_out {B bo pc bp n cap : Nat} {A : Option Addr} {w0 w : World} {c : Cfg} {vp : Value} {us : List Val} {qs : List Pay} (h : PS B bo pc bp w0 c n (.slice A n cap) vp us qs w) (i amt : Int) (hi : i < 0 ∨ (n : Int) ≤ i) (hn : n ≤ 100) :
    Calls Try.prog 18 #[.agg #[.int .i64 i, .int .u64 amt], .pointer (some ⟨bo, 0, none⟩), .pointer (some ⟨pc, 0, none⟩), .pointer (some ⟨bp, 0, none⟩)] w (PayPost B bo pc bp w0 c n (.slice A n cap) us qs) := by
  have hbx := (Below.refl w.heap.size w).alloc (Nat.le_refl _) (.cells #[.int .i64 i, .int .u64 amt] 49)
  have HS := Lib.hid (h.call hbx)
  have eo := HS.out.ho.cell (i := 0)
  simp only [List.getElem?_toArray, List.getElem?_cons_zero, List.getElem?_cons_succ] at eo
  clear h hbx
  by_cases h0 : i < 0
  · clear hi
    go_enter Try.func18, Try.ntmps18
    go_wp2_with fail
    refine bodyPost_end (results_none rfl _ _ _) rfl ?_
    exact ⟨rfl, vp, HS.out⟩
  · have h1 : (n : Int) ≤ i := by omega
    clear hi
    go_enter Try.func18, Try.ntmps18
    go_wp2_with fail
    refine bodyPost_end (results_none rfl _ _ _) rfl ?_
    exact ⟨rfl, vp, HS.out⟩

def AllOk (vs : List Val) : Prop := ∀ v ∈ vs, v.Ok
theorem pstep_spec {c : Cfg} {st : List Val × List Pay} {r : Req} (hok : AllOk st.1) (hc : 0 ≤ c.minBal) (hr : r.Ok) : (pstep c st r).1.length = st.1.length ∧ AllOk (pstep c st r).1 ∧ (pstep c st r).2.length ≤ st.2.length + 1 := by
  unfold pstep
  by_cases h : r.idx < 0 ∨ (st.1.length : Int) ≤ r.idx
  · rw [if_pos h]; exact ⟨rfl, hok, by omega⟩
  · rw [if_neg h]
    have hi : r.idx.toNat < st.1.length := by omega
    rw [List.getElem?_eq_getElem hi]
    refine ⟨by simp, fun v hv => ?_, by simp⟩
    rcases List.mem_or_eq_of_mem_set hv with hv | hv
    · exact hok v hv
    · rw [hv]; exact less_ok (hok _ (List.getElem_mem hi)) hc hr.1

/-- The closure, whatever the request. -/
theorem pay_any {B bo pc bp n cap : Nat} {A : Option Addr} {w0 w : World} {c : Cfg} {vp : Value} {st : List Val × List Pay} (h : PS B bo pc bp w0 c n (.slice A n cap) vp st.1 st.2 w) (r : Req) (hr : r.Ok) (hok : AllOk st.1) (hlen : st.1.length = n) (hc : 0 ≤ c.minBal) (hn : n ≤ 100) (hq : st.2.length ≤ 1000) :
    Calls Try.prog 18 #[.agg r.list.toArray, .pointer (some ⟨bo, 0, none⟩), .pointer (some ⟨pc, 0, none⟩), .pointer (some ⟨bp, 0, none⟩)] w (PayPost B bo pc bp w0 c n (.slice A n cap) (pstep c st r).1 (pstep c st r).2) := by
  unfold pstep
  by_cases hi : r.idx < 0 ∨ (st.1.length : Int) ≤ r.idx
  · rw [if_pos hi]
    exact pay_out h r.idx r.amt (by omega) hn
  · rw [if_neg hi]
    have hs : r.idx.toNat < st.1.length := by omega
    rw [List.getElem?_eq_getElem hs]
    obtain ⟨g, cap', hv, _, _, _⟩ := own_form h.oo (by omega)
    simp only [Value.slice.injEq, true_and] at hv
    obtain ⟨rfl, rfl⟩ := hv
    have e : ((r.idx.toNat : Nat) : Int) = r.idx := by omega
    have := pay_in h r.idx.toNat r.amt st.1[r.idx.toNat] (by omega) (List.getElem?_eq_getElem hs) (hok _ (List.getElem_mem hs)) hc hr.1 hn hq
    rw [e] at this
    exact this

end Go.Proofs.Ytbafgipegekbcaa
