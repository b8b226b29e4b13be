/- The reference's Put; a whole validator out of a row. -/
import Derived.Test.YtbafgipegekbcaaVal
import Derived.Test.YtbafgipegekbcaaRow
namespace Go.Proofs.Ytbafgipegekbcaa
open Go.RowKit
set_option linter.unusedSimpArgs false
set_option linter.unusedVariables false

theorem Try.infoV : (Try.prog.info? 35).map (fun i => (i.zero, i.size, i.bytes)) = some (some (.agg Val.zero.list.toArray), 7, 56) := by kernel_rfl

/-- A row of validators. -/
abbrev Vals (w : World) (a : Option Addr) (n : Nat) (vs : List Val) : Prop := Row Val.list w a n vs

def PutPost (n : Nat) (vs : List Val) (w : World) (e : Ending) (w' : World) : Prop :=
  ∃ g c, e = .returned (.slice (some ⟨g, 0, none⟩) n c) ∧ Vals w' (some ⟨g, 0, none⟩) n vs ∧ n ≤ c ∧ Below w.heap.size w w'

/-- .. and the row that comes back is new. -/
def PutNew (n : Nat) (vs : List Val) (w : World) (e : Ending) (w' : World) : Prop :=
  ∃ g c, e = .returned (.slice (some ⟨g, 0, none⟩) n c) ∧ Vals w' (some ⟨g, 0, none⟩) n vs ∧ n ≤ c ∧ Below w.heap.size w w' ∧ w.heap.size ≤ g

set_option maxHeartbeats 2000000 in
theorem put_new (vs : List Val) (A : Option Addr) (n cap i : Nat) (v : Val) (w : World) (h : Vals w A n vs) (hi : i < n) (hn : n ≤ 100000) :
    Calls Try.prog 21 #[.slice A n cap, .int .i64 i, .agg v.list.toArray] w (PutNew n (vs.set i v) w) := by
  have HR := Lib.hid h
  have HV := Lib.hid ((ValAt.new w v).alloc (.cells #[] 35))
  have HRR := Lib.hid ((h.alloc (.cells v.list.toArray 35)).alloc (.cells #[] 35))
  have HB := Lib.hid (((Below.refl w.heap.size w).alloc (Nat.le_refl _) (.cells v.list.toArray 35)).alloc (by simp) (.cells #[] 35))
  have HO : Hid (World.ownsRow ((w.alloc (.cells v.list.toArray 35)).alloc (.cells #[] 35)) (w.heap.size + 1) 35 7 (.slice (some ⟨w.heap.size + 1, 0, none⟩) 0 0) 0 (flat Val.list [])) := by
    have := World.ownsRow_made (e := 35) (size := 7) (w.alloc (.cells v.list.toArray 35)) (base := w.heap.size + 1) #[] 0 (by simp) (by unfold maxLen; omega) rfl
    simpa [Hid, flat] using this
  clear h
  go_enter Try.func21, Try.ntmps21
  go_wp2_with (first | (at_builtin; go_must (refine wpList_appendR 22 Val.len (by decide) Val.one HO.out HRR.out (.agg Val.zero.list.toArray) Try.underlying22 Try.infoV rfl (by omega) (by omega) (by simp) rfl rfl rfl rfl ?_)) | fail)
  intro v' w1 hown hgr hat
  obtain ⟨g, c, rfl, hg1, hg2, hc⟩ := own_form hown (by omega)
  have hlen : n = vs.length := HR.out.1
  have hV1 : ValAt w1 w.heap.size v := by
    have := hgr.block w.heap.size (by simp; omega) (by simp [Value.ownBlock])
    exact this.trans HV.out
  have hB1 : Below w.heap.size w w1 := HB.out.grown hgr (by simp; omega) (fun k hk => by simp [Value.ownBlock] at hk; omega)
  have HO1 := Lib.hid hown
  have HV1 := Lib.hid hV1
  have HB1 := Lib.hid hB1
  have HT := Lib.hid (own_there Val.len (by decide) hown i hi)
  clear hown hgr hat hV1 hB1 HR HV HRR HB HO hg2 hlen
  have hi1 : (i : Int) < (n : Int) := by omega
  have hi0 : (0 : Int) ≤ (i : Int) := by omega
  go_wp2_with (first | ((with_reducible show wpList _ _ _ (_ :: _) _ _); first | refine wpList_load_val (.tmp 5) rfl rfl rfl HV1.out ?_ | refine wpList_store_mid rfl 35 (.tmp 14) (.tmp 13) rfl g (i * 7) v.list.toArray rfl rfl HT.out v.info v.oneA ?_) | fail)
  have hput := own_put Val.len (by decide) HO1.out i hi v
  refine ?_
  go_ret
  refine ⟨g, c, rfl, row_of_own Val.len (by decide) hput.1, hc, HB1.out.grown hput.2 HB1.out.size (fun k hk => by cases hk; omega), by omega⟩

theorem put_any (vs : List Val) (A : Option Addr) (n cap i : Nat) (v : Val) (w : World) (h : Vals w A n vs) (hi : i < n) (hn : n ≤ 100000) :
    Calls Try.prog 21 #[.slice A n cap, .int .i64 i, .agg v.list.toArray] w (PutPost n (vs.set i v) w) :=
  (put_new vs A n cap i v w h hi hn).mono fun _ _ ⟨g, c, h1, h2, h3, h4, _⟩ => ⟨g, c, h1, h2, h3, h4⟩


/-- A whole validator out of a row. -/
theorem wpList_load_at {ops : Array Oper} {rest : List Oper} {o : Oper} {a : Act} {w : World} {Q : Exit → Act → World → Prop} {b off : Nat} (v : Val) (x : Operand) (hgd : Region.wanted o (yielded ops a.tmps) = true) (ho : o.op = .load 35 x)
    (hx : a.eval x = .pointer (some ⟨b, off, none⟩)) (hc : w.rangeAt b off v.list) (h : wpList Try.prog ops Q rest (a.put o.dst (.agg v.list.toArray)) w) : wpList Try.prog ops Q (o :: rest) a w :=
  wpList_load_part v.list 35 x hgd ho hx hc _ Try.underlying35 rfl v.infoL h

theorem range_call {w w' : World} {b o : Nat} {cs : List Value} (h : w.rangeAt b o cs) (hl : b < w.heap.size) (hb : Below w.heap.size w w') : w'.rangeAt b o cs := fun j v hj => (hb.cell (p := ⟨b, o + j, none⟩) hl).trans (h j v hj)

end Go.Proofs.Ytbafgipegekbcaa
