/- Chapter 16: the references' Put and Move. -/
import Derived.Test.YtgmbgomlicamdaaMgD
namespace Go.Proofs.Ytgmbgomlicamdaa
open Go.RowKit Go.Maps
set_option linter.unusedSimpArgs false
set_option linter.unusedVariables false

theorem Try.infoV : (Try.prog.info? 24).map (fun i => (i.zero, i.size, i.bytes)) = some (some (.agg Val.zero.list.toArray), 7, 56) := by kernel_rfl

/-- A row of validators. -/
abbrev Vals (w : World) (a : Option Addr) (n : Nat) (vs : List Val) : Prop := Row Val.list w a n vs

def PutPost (n : Nat) (vs : List Val) (w : World) (e : Ending) (w' : World) : Prop :=
  ∃ g c, e = .returned (.slice (some ⟨g, 0, none⟩) n c) ∧ Vals w' (some ⟨g, 0, none⟩) n vs ∧ n ≤ c ∧ Below w.heap.size w w'

set_option maxHeartbeats 2000000 in
theorem put_any (vs : List Val) (A : Option Addr) (n cap i : Nat) (v : Val) (w : World) (h : Vals w A n vs) (hi : i < n) (hn : n ≤ 100000) :
    Calls Try.prog 15 #[.slice A n cap, .int .i64 i, .agg v.list.toArray] w (PutPost n (vs.set i v) w) := by
  have HR := Lib.hid h
  have HV := Lib.hid ((ValAt.new w v).alloc (.cells #[] 24))
  have HRR := Lib.hid ((h.alloc (.cells v.list.toArray 24)).alloc (.cells #[] 24))
  have HB := Lib.hid (((Below.refl w.heap.size w).alloc (Nat.le_refl _) (.cells v.list.toArray 24)).alloc (by simp) (.cells #[] 24))
  have HO : Hid (World.ownsRow ((w.alloc (.cells v.list.toArray 24)).alloc (.cells #[] 24)) (w.heap.size + 1) 24 7 (.slice (some ⟨w.heap.size + 1, 0, none⟩) 0 0) 0 (flat Val.list [])) := by
    have := World.ownsRow_made (e := 24) (size := 7) (w.alloc (.cells v.list.toArray 24)) (base := w.heap.size + 1) #[] 0 (by simp) (by unfold maxLen; omega) rfl
    simpa [Hid, flat] using this
  clear h
  go_enter Try.func15, Try.ntmps15
  go_wp2_with (first | (at_builtin; go_must (refine wpList_appendR 34 Val.len (by decide) Val.one HO.out HRR.out (.agg Val.zero.list.toArray) Try.underlying34 Try.infoV rfl (by omega) (by omega) (by simp) rfl rfl rfl rfl ?_)) | fail)
  intro v' w1 hown hgr hat
  obtain ⟨g, c, rfl, hg1, hg2, hc⟩ := own_form hown (by omega)
  have hlen : n = vs.length := HR.out.1
  have hV1 : ValAt w1 w.heap.size v := by
    have := hgr.block w.heap.size (by simp; omega) (by simp [Value.ownBlock])
    exact this.trans HV.out
  have hB1 : Below w.heap.size w w1 := HB.out.grown hgr (by simp; omega) (fun k hk => by simp [Value.ownBlock] at hk; omega)
  have HO1 := Lib.hid hown
  have HV1 := Lib.hid hV1
  have HB1 := Lib.hid hB1
  have HT := Lib.hid (own_there Val.len (by decide) hown i hi)
  clear hown hgr hat hV1 hB1 HR HV HRR HB HO hg2 hlen
  have hi1 : (i : Int) < (n : Int) := by omega
  have hi0 : (0 : Int) ≤ (i : Int) := by omega
  go_wp2_with (first | ((with_reducible show wpList _ _ _ (_ :: _) _ _); first | refine wpList_load_val (.tmp 5) rfl rfl rfl HV1.out ?_ | refine wpList_store_mid rfl 24 (.tmp 14) (.tmp 13) rfl g (i * 7) v.list.toArray rfl rfl HT.out v.info v.oneA ?_) | fail)
  have hput := own_put Val.len (by decide) HO1.out i hi v
  refine ?_
  go_ret
  refine ⟨g, c, rfl, row_of_own Val.len (by decide) hput.1, hc, HB1.out.grown hput.2 HB1.out.size (fun k hk => by cases hk; omega)⟩

theorem Vv.cellX {b p : Nat} {w0 w : World} {x y : Val} (h : Vv b p w0 x y w) (i : Nat) (u : Value) (x' : Val) (hx : x'.list.toArray = x.list.toArray.setIfInBounds i u) : Vv b p w0 x' y (w.setCell ⟨p, i, none⟩ u) := by
  rw [Nb.set h.hx, ← hx]; exact h.setX x'
theorem Vv.cellY {b p : Nat} {w0 w : World} {x y : Val} (h : Vv b p w0 x y w) (i : Nat) (u : Value) (y' : Val) (hx : y'.list.toArray = y.list.toArray.setIfInBounds i u) : Vv b p w0 x y' (w.setCell ⟨p + 1, i, none⟩ u) := by
  rw [Nb.set h.hy, ← hx]; exact h.setY y'

/-- A whole validator out of a row. -/
theorem wpList_load_at {ops : Array Oper} {rest : List Oper} {o : Oper} {a : Act} {w : World} {Q : Exit → Act → World → Prop} {b off : Nat} (v : Val) (x : Operand) (hgd : Region.wanted o (yielded ops a.tmps) = true) (ho : o.op = .load 24 x)
    (hx : a.eval x = .pointer (some ⟨b, off, none⟩)) (hc : w.rangeAt b off v.list) (h : wpList Try.prog ops Q rest (a.put o.dst (.agg v.list.toArray)) w) : wpList Try.prog ops Q (o :: rest) a w :=
  wpList_load_part v.list 24 x hgd ho hx hc _ Try.underlying24 rfl v.infoL h

theorem range_call {w w' : World} {b o : Nat} {cs : List Value} (h : w.rangeAt b o cs) (hl : b < w.heap.size) (hb : Below w.heap.size w w') : w'.rangeAt b o cs := fun j v hj => (hb.cell (p := ⟨b, o + j, none⟩) hl).trans (h j v hj)

set_option maxHeartbeats 4000000 in
theorem move_any (vs : List Val) (b o n cap s d : Nat) (w : World) (h : w.rangeAt b o (flat Val.list vs)) (hbl : b < w.heap.size) (hlen : n = vs.length) (hs : s < n) (hd : d < n) (hn : n ≤ 100000) (x y : Val) (hx : vs[s]? = some x) (hy : vs[d]? = some y) (hx0 : 0 ≤ x.bal) (hy0 : 0 ≤ y.bal) (hsum : x.bal + y.bal ≤ 18446744073709551615) :
    Calls Try.prog 12 #[.slice (some ⟨b, o, none⟩) n cap, .int .i64 s, .int .i64 d] w (PutPost n ((vs.set s x.mv1).set d (x.mv2 y)) w) := by
  have ex : vs[s]'(by omega) = x := by rw [List.getElem?_eq_getElem (by omega)] at hx; exact Option.some.inj hx
  have ey : vs[d]'(by omega) = y := by rw [List.getElem?_eq_getElem (by omega)] at hy; exact Option.some.inj hy
  have rx := Row.elem Val.len h s (by omega)
  rw [ex] at rx
  have ry := Row.elem Val.len h d (by omega)
  rw [ey] at ry
  have HRX := Lib.hid (range_call rx hbl ((Below.refl _ _).alloc (Nat.le_refl _) (.cells Val.zero.list.toArray 24)))
  have HRX0 := Lib.hid rx
  have HRY := Lib.hid (range_call ry hbl (((Below.refl _ _).alloc (Nat.le_refl _) (.cells x.list.toArray 24))))
  have HRY0 := Lib.hid ry
  have HRow : Hid (Vals w (some ⟨b, o, none⟩) n vs) := ⟨hlen, .inr ⟨b, o, rfl, hbl, h⟩⟩
  have HV := Lib.hid (Vv.new (Below.refl w.heap.size w) (Nat.le_refl _) x y)
  have hw : IntKind.u64.wrap (y.bal + x.bal) = y.bal + x.bal := IntWalk.u64_in _ (by omega)
  have HL := Lib.hid hlen
  clear h ex ey rx ry hlen hx hy
  have hs1 : (s : Int) < (n : Int) := by omega
  have hs0 : (0 : Int) ≤ (s : Int) := by omega
  have hd1 : (d : Int) < (n : Int) := by omega
  have hd0 : (0 : Int) ≤ (d : Int) := by omega
  go_enter Try.func12, Try.ntmps12
  go_wp2_with (first | ((with_reducible show wpList _ _ _ (_ :: _) _ _); first | refine wpList_store_last 24 (.tmp 7) (.tmp 12) x.list.toArray rfl rfl rfl rfl x.info rfl x.oneA ?_ | refine wpList_load_at x (.tmp 11) rfl rfl rfl HRX0.out ?_ | refine wpList_load_at y (.tmp 15) rfl rfl rfl HRY.out ?_ | refine wpList_store_last 24 (.tmp 8) (.tmp 16) y.list.toArray rfl rfl (by simp; rfl) rfl y.info rfl y.oneA ?_ | ((with_reducible show wpList _ _ _ (⟨some 17, _, _, _, _, _⟩ :: _) _ _); refine halted ?_)) | fail)
  unfold Halted
  clear HRX HRX0 HRY HRY0 hx0 hy0 hsum
  generalize hwn : World.alloc (World.alloc w _) _ = w0 at HV ⊢
  clear hwn
  have x0 := HV.out.hx.c0
  have y0 := HV.out.hy.c0
  have fy := Nb.frozen (i := 0) HV.out.hy
  go_wp2_with (first | ((with_reducible show wpList _ _ _ (⟨some 23, _, _, _, _, _⟩ :: _) _ _); refine halted ?_) | fail)
  unfold Halted
  clear x0 y0 fy hw
  have HV1 := Lib.hid (HV.out.cellY 0 (.int .u64 (y.bal + x.bal)) (x.mv2 y) rfl)
  generalize hwn : World.setCell _ _ _ = w1 at HV1 ⊢
  clear HV hwn
  have fx := Nb.frozen (i := 0) HV1.out.hx
  have x0 := HV1.out.hx.c0
  go_wp2_with (first | ((with_reducible show wpList _ _ _ (⟨some 24, _, _, _, _, _⟩ :: _) _ _); refine halted ?_) | fail)
  unfold Halted
  clear x0 fx
  have HV2 := Lib.hid (HV1.out.cellX 0 (.int .u64 0) { x with bal := 0 } rfl)
  generalize hwn : World.setCell _ _ _ = w2 at HV2 ⊢
  clear HV1 hwn
  have fx := Nb.frozen (i := 1) HV2.out.hx
  have x1 := HV2.out.hx.c1
  go_wp2_with fail
  clear x1 fx
  have HV3 := Lib.hid (HV2.out.cellX 1 (.int .i64 7) x.mv1 rfl)
  generalize hwn : World.setCell _ _ _ = w3 at HV3 ⊢
  clear HV2 hwn
  refine wp_region_held_drew (S := Vv w.heap.size w.heap.size w x.mv1 (x.mv2 y)) (by kernel_rfl) HV3.out.drew (fun hS => ?_)
  have HV4 := Lib.hid HV3.out.drew
  clear HV3
  refine wpAnyH_take (i := 0) (v := ?v0) rfl (by kernel_rfl) (by kernel_rfl) (by kernel_rfl) (fun _ _ _ h => h) (Or.inl ⟨by rfl, ?y0⟩) hS ?z0
  case y0 => intro w hSw; (try dsimp only at hSw); go_simp; (try with_reducible rfl)
  try simp only [Act.put, List.getElem_toArray, List.getElem_cons_succ, List.getElem_cons_zero, List.setIfInBounds_toArray, List.set_cons_zero, List.set_cons_succ]
  refine wpAnyH_take (i := 1) (v := ?v1) rfl (by kernel_rfl) (by kernel_rfl) (by kernel_rfl) (fun _ _ _ h => h) (Or.inl ⟨by rfl, ?y1⟩) hS ?z1
  case y1 => intro w hSw; (try dsimp only at hSw); go_simp; (try with_reducible rfl)
  try simp only [Act.put, List.getElem_toArray, List.getElem_cons_succ, List.getElem_cons_zero, List.setIfInBounds_toArray, List.set_cons_zero, List.set_cons_succ]
  refine wpAnyH_take (i := 2) rfl (by kernel_rfl) (by kernel_rfl) (by kernel_rfl) (fun _ _ _ h => h) (yieldsIf_load_nb rfl 24 (.tmp 7) rfl w.heap.size 24 x.mv1.list.toArray rfl (fun w hS => hS.hx) _ Try.underlying24 rfl x.mv1.info) hS ?_
  try simp only [Act.put, List.getElem_toArray, List.getElem_cons_succ, List.getElem_cons_zero, List.setIfInBounds_toArray, List.set_cons_zero, List.set_cons_succ]
  refine wpAnyH_take (i := 4) (v := ?v4) rfl (by kernel_rfl) (by kernel_rfl) (by kernel_rfl) (fun _ _ _ h => h) (Or.inl ⟨by rfl, ?y4⟩) hS ?z4
  case y4 => intro w hSw; (try dsimp only at hSw); go_simp; (try with_reducible rfl)
  try simp only [Act.put, List.getElem_toArray, List.getElem_cons_succ, List.getElem_cons_zero, List.setIfInBounds_toArray, List.set_cons_zero, List.set_cons_succ]
  refine wpAnyH_take (i := 5) rfl (by kernel_rfl) (by kernel_rfl) (by kernel_rfl) (fun _ _ _ h => h) (yieldsIf_load_nb rfl 24 (.tmp 8) rfl (w.heap.size + 1) 24 (x.mv2 y).list.toArray rfl (fun w hS => hS.hy) _ Try.underlying24 rfl (x.mv2 y).info) hS ?_
  try simp only [Act.put, List.getElem_toArray, List.getElem_cons_succ, List.getElem_cons_zero, List.setIfInBounds_toArray, List.set_cons_zero, List.set_cons_succ]
  refine wpAnyH_ready (rs := [3]) (by kernel_rfl) (by simp) (AllReadyH.cons rfl (fun K hK => ?_) AllReadyH.nil)
  go_simp
  refine (put_any vs _ n cap s x.mv1 _ (HRow.out.call HV4.out.hb) hs hn).mono ?_
  rintro en w5 ⟨g, c1, rfl, hR5, hc1, hb5⟩
  have HV5 := Lib.hid (HV4.out.call hb5)
  have HR5 := Lib.hid hR5
  clear HV4 hR5 hb5
  refine hK.out _ _ HV5.out (fun hS => ?_)
  clear hK K
  try simp only [Act.put, List.getElem_toArray, List.getElem_cons_succ, List.getElem_cons_zero, List.setIfInBounds_toArray, List.set_cons_zero, List.set_cons_succ]
  refine wpAnyH_ready (rs := [6]) (by kernel_rfl) (by simp) (AllReadyH.cons rfl (fun K hK => ?_) AllReadyH.nil)
  go_simp
  refine (put_any (vs.set s x.mv1) _ n c1 d (x.mv2 y) _ HR5.out hd hn).mono ?_
  rintro en w6 ⟨g2, c2, rfl, hR6, hc2, hb6⟩
  have HV6 := Lib.hid (HV5.out.call hb6)
  have HR6 := Lib.hid hR6
  clear HV5 hR6 hb6
  refine hK.out _ _ HV6.out (fun hS => ?_)
  clear hK K
  try simp only [Act.put, List.getElem_toArray, List.getElem_cons_succ, List.getElem_cons_zero, List.setIfInBounds_toArray, List.set_cons_zero, List.set_cons_succ]
  refine wpAnyH_take (i := 7) (v := ?v7) rfl (by kernel_rfl) (by kernel_rfl) (by kernel_rfl) (fun _ _ _ h => h) (Or.inl ⟨by rfl, ?y7⟩) hS ?z7
  case y7 => intro w hSw; (try dsimp only at hSw); go_simp; (try with_reducible rfl)
  try simp only [Act.put, List.getElem_toArray, List.getElem_cons_succ, List.getElem_cons_zero, List.setIfInBounds_toArray, List.set_cons_zero, List.set_cons_succ]
  refine wpAnyH_done (by kernel_rfl) ?_ _
  go_wp2_with fail
  go_ret
  exact ⟨g2, c2, rfl, HR6.out, hc2, HV6.out.hb⟩

end Go.Proofs.Ytgmbgomlicamdaa
