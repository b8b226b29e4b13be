/- egressref03.Check: 0 exactly for a configuration whose fields are all right. -/
import Derived.Test.YtbafgipegekbcaaCfgR
namespace Go.Proofs.Ytbafgipegekbcaa
open Go.RowKit

/-- Is field i right? -/
def okP (c : Cfg) : Nat → Prop
  | 1 => 1 ≤ c.capacity ∧ c.capacity ≤ 4096
  | 2 => 1 ≤ c.queue ∧ c.queue ≤ 4096
  | 3 => 1 ≤ c.minDep
  | 4 => c.minDep ≤ c.maxDep
  | 5 => c.maxDep ≤ c.supply ∧ c.supply ≤ 1152921504606846976
  | 6 => 1 ≤ c.minBal ∧ c.minBal ≤ c.minDep
  | 7 => c.maxDep ≤ c.maxBal ∧ c.maxBal ≤ c.supply
  | 8 => 1 ≤ c.minChurn ∧ c.minChurn ≤ 1152921504606846976
  | 9 => 1 ≤ c.quot
  | 10 => c.forced ≤ 1152921504606846976
  | 11 => 1 ≤ c.unb ∧ c.unb ≤ 1048576
  | 12 => c.unb < c.slash ∧ c.slash ≤ 1048576
  | 13 => 1 ≤ c.ring ∧ c.ring ≤ 4096
  | 14 => 1 ≤ c.epl ∧ c.epl ≤ 4096
  | 15 => 1 ≤ c.visits ∧ c.visits ≤ 4096
  | 16 => 1 ≤ c.pays ∧ c.pays ≤ 4096
  | 17 => 0 ≤ c.parts ∧ c.parts < c.visits ∧ c.parts < c.pays
  | 18 => 0 ≤ c.merges ∧ c.merges ≤ 4096
  | 19 => c.pnum ≤ c.pden
  | 20 => 1 ≤ c.pden ∧ c.pden ≤ 4294967296
  | _ => True

theorem Cfg.Ok.okP {c : Cfg} (h : c.Ok) : ∀ i, okP c i
  | 0 => trivial
  | 1 => h.h1
  | 2 => h.h2
  | 3 => h.h3
  | 4 => h.h4
  | 5 => h.h5
  | 6 => h.h6
  | 7 => h.h7
  | 8 => h.h8
  | 9 => h.h9
  | 10 => h.h10
  | 11 => h.h11
  | 12 => h.h12
  | 13 => h.h13
  | 14 => h.h14
  | 15 => h.h15
  | 16 => h.h16
  | 17 => h.h17
  | 18 => h.h18
  | 19 => h.h19
  | 20 => h.h20
  | _ + 21 => trivial

theorem Cfg.Ok.of {c : Cfg} (h : ∀ i, 1 ≤ i → i ≤ 20 → Go.Proofs.Ytbafgipegekbcaa.okP c i) : c.Ok :=
  ⟨h 1 (by decide) (by decide), h 2 (by decide) (by decide), h 3 (by decide) (by decide), h 4 (by decide) (by decide), h 5 (by decide) (by decide), h 6 (by decide) (by decide), h 7 (by decide) (by decide), h 8 (by decide) (by decide), h 9 (by decide) (by decide), h 10 (by decide) (by decide), h 11 (by decide) (by decide), h 12 (by decide) (by decide), h 13 (by decide) (by decide), h 14 (by decide) (by decide), h 15 (by decide) (by decide), h 16 (by decide) (by decide), h 17 (by decide) (by decide), h 18 (by decide) (by decide), h 19 (by decide) (by decide), h 20 (by decide) (by decide)⟩

theorem right_any (c : Cfg) (w : World) (i : Nat) (h1 : 1 ≤ i) (h2 : i ≤ 20) (b : Bool) (hb : (b = true) = okP c i) :
    Calls Try.prog 13 #[.agg c.list.toArray, .int .i64 (i : Int)] w fun e w' => e = .returned (.bool b) ∧ Below w.heap.size w w' := by
  have h : i = 1 ∨ i = 2 ∨ i = 3 ∨ i = 4 ∨ i = 5 ∨ i = 6 ∨ i = 7 ∨ i = 8 ∨ i = 9 ∨ i = 10 ∨ i = 11 ∨ i = 12 ∨ i = 13 ∨ i = 14 ∨ i = 15 ∨ i = 16 ∨ i = 17 ∨ i = 18 ∨ i = 19 ∨ i = 20 := by omega
  rcases h with rfl | rfl | rfl | rfl | rfl | rfl | rfl | rfl | rfl | rfl | rfl | rfl | rfl | rfl | rfl | rfl | rfl | rfl | rfl | rfl
  · exact right_1 c w b hb
  · exact right_2 c w b hb
  · exact right_3 c w b hb
  · exact right_4 c w b hb
  · exact right_5 c w b hb
  · exact right_6 c w b hb
  · exact right_7 c w b hb
  · exact right_8 c w b hb
  · exact right_9 c w b hb
  · exact right_10 c w b hb
  · exact right_11 c w b hb
  · exact right_12 c w b hb
  · exact right_13 c w b hb
  · exact right_14 c w b hb
  · exact right_15 c w b hb
  · exact right_16 c w b hb
  · exact right_17 c w b hb
  · exact right_18 c w b hb
  · exact right_19 c w b hb
  · exact right_20 c w b hb

/-- The whole configuration is read out of its block. -/
theorem wpList_load_cfg {ops : Array Oper} {rest : List Oper} {o : Oper} {a : Act} {w : World} {Q : Exit → Act → World → Prop} {b : Nat} {c : Cfg} (x : Operand) (hgd : o.guard = none) (ho : o.op = .load 26 x)
    (hx : a.eval x = .pointer (some ⟨b, 0, none⟩)) (hc : CfgAt w b c) (h : wpList Try.prog ops Q rest (a.put o.dst (.agg c.list.toArray)) w) : wpList Try.prog ops Q (o :: rest) a w :=
  wpList_load_row hgd 26 x ho b hx 26 c.list.toArray (0, 0) _ hc Try.underlying26 rfl (by kernel_rfl) h

/-- What Check answers. -/
def CheckPost (c : Cfg) (w : World) (e : Ending) (w' : World) : Prop := (∃ r : Int, e = .returned (.int .i64 r) ∧ (r = 0 ↔ c.Ok)) ∧ Below w.heap.size w w'

set_option maxHeartbeats 400000 in
theorem check_any (c : Cfg) (w : World) : Calls Try.prog 6 #[.agg c.list.toArray] w (CheckPost c w) := by
  have hn := CfgAt.new w c
  have hB := (Below.refl w.heap.size w).alloc (Nat.le_refl _) (.cells c.list.toArray 26)
  have HN := Lib.hid hn
  have HB := Lib.hid hB
  clear hn hB
  go_enter Try.func6, Try.ntmps6
  go_wp2_with fail
  go_loopg [3] 20 (fun k i wr => ∃ j : Nat, j + k = 21 ∧ 1 ≤ j ∧ i = .int .i64 j ∧ Hid (∀ m, 1 ≤ m → m < j → okP c m) ∧ Hid (CfgAt wr w.heap.size c) ∧ Hid (Below w.heap.size w wr))
  case atStart => exact ⟨1, by omega, by omega, rfl, fun m h1 h2 => by omega, HN, HB⟩
  case round =>
    obtain ⟨j, hj, hj1, rfl, HM, HC, HBr⟩ := hrel
    clear HN HB
    by_cases hlt : j ≤ 20
    · by_cases hok : okP c j
      · have HR := Lib.hid (right_any c wr j hj1 hlt true (by simp [hok]))
        have HK := Lib.hid hok
        clear hok
        go_wp2_with (first | (with_reducible show wpList _ _ _ (_ :: _) _ _; refine wpList_load_cfg (.tmp 1) rfl rfl rfl HC.out ?_) | fail)
        refine HR.out.mono ?_
        rintro e w2 ⟨rfl, hb2⟩
        have HC2 := Lib.hid (HC.out.below hb2)
        have HB2 := Lib.hid (HBr.out.trans (hb2.mono HBr.out.size))
        have HM2 : Hid (∀ m, 1 ≤ m → m < j + 1 → okP c m) := fun m h1 h2 => by
          by_cases e : m = j
          · subst e; exact HK.out
          · exact HM.out m h1 (by omega)
        clear hb2
        go_wp2_with fail
        go_roundg (20 - j)
        case measure => omega
        case rel => exact ⟨j + 1, by omega, by omega, by go_num, HM2, HC2, HB2⟩
      · have HR := Lib.hid (right_any c wr j hj1 hlt false (by simp [hok]))
        have HK := Lib.hid hok
        clear hok
        go_wp2_with (first | (with_reducible show wpList _ _ _ (_ :: _) _ _; refine wpList_load_cfg (.tmp 1) rfl rfl rfl HC.out ?_) | fail)
        refine HR.out.mono ?_
        rintro e w2 ⟨rfl, hb2⟩
        have HB2 := Lib.hid (HBr.out.trans (hb2.mono HBr.out.size))
        clear hb2
        go_wp2_with fail
        go_ret
        exact ⟨⟨(j : Int), rfl, ⟨fun h => absurd h (by omega), fun h => absurd (h.okP j) HK.out⟩⟩, HB2.out⟩
    · obtain rfl : j = 21 := by omega
      go_wp2_with fail
      go_ret
      exact ⟨⟨0, rfl, ⟨fun _ => Cfg.Ok.of fun i h1 h2 => HM.out i h1 (by omega), fun _ => rfl⟩⟩, HBr.out⟩

end Go.Proofs.Ytbafgipegekbcaa
