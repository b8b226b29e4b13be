/- slices.Clone at validators: a row of its own. -/
import Derived.Test.YtbafgipegekbcaaVal
import Derived.Test.YtbafgipegekbcaaRow
import Derived.WalkSpells
namespace Go.Proofs.Ytbafgipegekbcaa
open Go.RowKit
set_option linter.unusedSimpArgs false
set_option linter.unusedVariables false

theorem Try.infoV0 : (Try.prog.info? 35).map (fun i => (i.zero, i.size, i.bytes)) = some (some (.agg Val.zero.list.toArray), 7, 56) := by kernel_rfl

def CloneC (n : Nat) (vs : List Val) (w : World) (e : Ending) (w' : World) : Prop :=
  ∃ v, e = .returned v ∧ w'.ownsRow w.heap.size 35 7 v n (flat Val.list vs) ∧ Below w.heap.size w w'

set_option maxHeartbeats 2000000 in
theorem clone_none (cap : Nat) (w : World) : Calls Try.prog 17 #[.slice none 0 cap] w (CloneC 0 [] w) := by
  have H := Lib.run_eql_slice_nil (P := Try.prog) w 22 35 none 0 cap 0 0 Try.underlying22
  go_enter Try.func17, Try.ntmps17
  go_wp2
  go_ret
  exact ⟨_, rfl, by simpa [flat] using World.ownsRow_nil w _ _ _, Below.refl _ _⟩

set_option maxHeartbeats 2000000 in
theorem clone_some (vs : List Val) (ad : Addr) (n cap : Nat) (w : World) (h : Row Val.list w (some ad) n vs) (hn : n ≤ 100000) : Calls Try.prog 17 #[.slice (some ad) n cap] w (CloneC n vs w) := by
  have H := Lib.run_eql_slice_nil (P := Try.prog) w 22 35 (some ad) n cap 0 0 Try.underlying22
  have HRR := Lib.hid (h.alloc (.cells #[] 35))
  have HB := Lib.hid ((Below.refl w.heap.size w).alloc (Nat.le_refl _) (.cells #[] 35))
  have HO : Hid (World.ownsRow (w.alloc (.cells #[] 35)) w.heap.size 35 7 (.slice (some ⟨w.heap.size, 0, none⟩) 0 0) 0 (flat Val.list [])) := by
    have := World.ownsRow_made (e := 35) (size := 7) w (base := w.heap.size) #[] 0 (by simp) (by unfold maxLen; omega) rfl
    simpa [Hid, flat] using this
  clear h
  go_enter Try.func17, Try.ntmps17
  go_wp2_with (first | (at_builtin; go_must (refine wpList_appendR 22 Val.len (by decide) Val.one HO.out HRR.out (.agg Val.zero.list.toArray) Try.underlying22 Try.infoV0 rfl (by omega) (by omega) (by simp) rfl rfl rfl rfl ?_)) | fail)
  intro v' w1 hown hgr hat
  have hB1 := HB.out.grown hgr (by simp) (fun k hk => by simp [Value.ownBlock] at hk; omega)
  have HO1 := Lib.hid hown
  have HB1 := Lib.hid hB1
  clear hown hgr hat hB1
  go_wp2_with fail
  go_ret
  exact ⟨_, rfl, by simpa using HO1.out, HB1.out⟩

theorem clone_any (vs : List Val) (A : Option Addr) (n cap : Nat) (w : World) (h : Row Val.list w A n vs) (hn : n ≤ 100000) : Calls Try.prog 17 #[.slice A n cap] w (CloneC n vs w) := by
  cases A with
  | none =>
    obtain ⟨h1, h2 | ⟨b, o, h2, _⟩⟩ := h
    · subst h2
      have hn0 : n = 0 := by simpa using h1
      subst hn0
      exact clone_none cap w
    · cases h2
  | some ad => exact clone_some vs ad n cap w h hn

end Go.Proofs.Ytbafgipegekbcaa
