/- Chapter 17: the requests of the reference as requests. -/
import Derived.Test.YtbafgipegekbcaaPtH
namespace Go.Proofs.Ytbafgipegekbcaa
open Go.RowKit
set_option linter.unusedSimpArgs false
set_option linter.unusedVariables false
set_option maxRecDepth 20000

theorem Req.one (r : Req) : ∀ x ∈ r.list, x.oneCell' = true := by
  intro x hx
  simp only [Req.list, List.mem_cons, List.not_mem_nil, or_false] at hx
  rcases hx with h | h <;> (rw [h]; rfl)
theorem Try.infoRq : (Try.prog.info? 49).map (fun i => (i.zero, i.size, i.bytes)) = some (some (.agg (Req.list ⟨0, 0⟩).toArray), 2, 16) := by kernel_rfl

def RqPost (m : Nat) (rs : List Req) (w : World) (e : Ending) (w' : World) : Prop :=
  ∃ A cap, e = .returned (.slice A m cap) ∧ Row Req.list w' A m rs ∧ m ≤ cap ∧ Below w.heap.size w w'

theorem own_cap {w : World} {base e size n k : Nat} {A : Option Addr} {m c : Nat} {xs : List Value} (h : w.ownsRow base e size (.slice A m c) n xs) (h0 : 0 < n) : n ≤ c := by
  obtain ⟨g, cap, hv, -, -, hc⟩ := own_form h h0
  simp only [Value.slice.injEq] at hv
  omega

set_option maxHeartbeats 8000000 in
theorem requests_some (bq oq m capq : Nat) (rs : List Req) (w : World) (hr : w.rangeAt bq oq (flat Req.list rs)) (hbl : bq < w.heap.size) (hlen : m = rs.length) (hn : m ≤ 60) :
    Calls Try.prog 9 #[.slice (some ⟨bq, oq, none⟩) m capq] w (RqPost m rs w) := by
  have HR := Lib.hid hr
  have HL := Lib.hid hlen
  clear hr hlen
  go_enter Try.func9, Try.ntmps9
  go_wp2_with fail
  go_loopg [3, 8] m (fun k v i wr => ∃ j : Nat, j + k = m ∧ i = .int .i64 j ∧ Hid (wr.ownsRow w.heap.size 49 2 v j (flat Req.list (rs.take j))) ∧ Hid (Below w.heap.size w wr))
  case atStart => exact ⟨0, by omega, rfl, by simpa [Hid, flat] using World.ownsRow_nil w _ _ _, Below.refl _ _⟩
  case round =>
    obtain ⟨j, hj, rfl, HO, HB⟩ := hrel
    have HJ := Lib.hid hj
    clear hj
    obtain ⟨A0, c0, rfl⟩ := own_slice HO.out
    by_cases hlt : j < m
    · have hjl : j < rs.length := by have := HL.out; omega
      have HT := Lib.hid (List.take_succ_eq_append_getElem hjl)
      have rp := Row.elem Req.len HR.out j hjl
      obtain ⟨⟨a, b⟩, hpj⟩ : ∃ p, rs[j] = p := ⟨_, rfl⟩
      rw [hpj] at rp HT
      have q0 : wr.cell? ⟨bq, oq + j * 2, none⟩ = some (.int .i64 a) := (HB.out.cell (p := ⟨bq, oq + j * 2, none⟩) hbl).trans (rp 0 _ rfl)
      have q1 : wr.cell? ⟨bq, oq + j * 2 + 1, none⟩ = some (.int .u64 b) := (HB.out.cell (p := ⟨bq, oq + j * 2 + 1, none⟩) hbl).trans (rp 1 _ rfl)
      have hsz : w.heap.size ≤ wr.heap.size := HB.out.size
      have hjn : (j : Int) < (m : Int) := by omega
      have hj0 : (0 : Int) ≤ (j : Int) := by omega
      clear rp hpj
      go_wp2_with (first | ((with_reducible show wpList _ _ _ (⟨some 13, _, _, _, _, _⟩ :: _) _ _); refine halted ?_) | fail)
      unfold Halted
      generalize hw1 : wr.alloc (.cells #[.int .i64 a, .int .u64 b] 52) = w1 at *
      have HO1 : Hid (w1.ownsRow w.heap.size 49 2 (.slice A0 j c0) j (flat Req.list (rs.take j))) := by rw [← hw1]; exact HO.out.alloc _
      have HB1 : Hid (Below w.heap.size w w1) := by rw [← hw1]; exact HB.out.alloc hsz _
      have hN : Nb w1 wr.heap.size (.cells #[.int .i64 a, .int .u64 b] 52 (0, 0)) := by rw [← hw1]; exact Nb.new _ _
      have n0 := hN.cell (i := 0)
      have n1 := hN.cell (i := 1)
      simp only [List.getElem?_toArray, List.getElem?_cons_zero, List.getElem?_cons_succ] at n0 n1
      have hsz1 : w.heap.size ≤ w1.heap.size := HB1.out.size
      clear hN HO HB q0 q1
      go_wp2_with (first | ((with_reducible show wpList _ _ _ (⟨some 15, _, _, _, _, _⟩ :: _) _ _); refine halted ?_) | fail)
      unfold Halted
      have HOp := Lib.hid (HO1.out.alloc (.cells #[.int .i64 a, .int .u64 b] 49))
      have HRw : Hid (Row Req.list (w1.alloc (.cells #[.int .i64 a, .int .u64 b] 49)) (some ⟨w1.heap.size, 0, none⟩) 1 [⟨a, b⟩]) := by
        refine ⟨rfl, .inr ⟨_, 0, rfl, by simp, fun j v hj => ?_⟩⟩
        have hn := Nb.new w1 (.cells #[.int .i64 a, .int .u64 b] 49)
        rw [Nat.zero_add, hn.cell]
        rw [flat_one] at hj
        simpa [Req.list] using hj
      refine wpList_appendR 32 Req.len (by decide) Req.one HOp.out HRw.out (.agg (Req.list ⟨0, 0⟩).toArray) Try.underlying32 Try.infoRq rfl (by omega) (by omega) (by simp; omega) rfl rfl rfl rfl ?_
      intro v' w' hown hgr hat
      obtain ⟨g2, c2, rfl, -, -, -⟩ := own_form hown (by omega)
      have HB2 := Lib.hid ((HB1.out.alloc hsz1 (.cells #[.int .i64 a, .int .u64 b] 49)).grown hgr (by simp; omega) (fun k hk => (HOp.out.lt k hk).1))
      have HO2 : Hid (w'.ownsRow w.heap.size 49 2 (.slice (some ⟨g2, 0, none⟩) (j + 1) c2) (j + 1) (flat Req.list (rs.take (j + 1)))) := by
        rw [Hid, HT.out]; exact hown
      clear hown hgr hat HO1 HB1 HOp HRw n0 n1
      go_wp2_with fail
      go_roundg (m - (j + 1))
      case measure => have := HJ.out; omega
      case rel => exact ⟨j + 1, by have := HJ.out; omega, by go_num, HO2, HB2⟩
    · obtain rfl : j = m := by have := HJ.out; omega
      have HF : Hid (wr.ownsRow w.heap.size 49 2 (.slice A0 j c0) j (flat Req.list rs)) := by
        have h := HO.out
        rwa [List.take_of_length_le (by have := HL.out; omega)] at h
      clear HO
      go_wp2_with fail
      go_ret
      refine ⟨A0, c0, rfl, row_of_own Req.len (by decide) HF.out, ?_, HB.out⟩
      by_cases h0 : 0 < j
      · obtain ⟨g, cap, hv, -, -, hc⟩ := own_form HF.out h0
        simp only [Value.slice.injEq] at hv
        omega
      · omega

set_option maxHeartbeats 2000000 in
theorem requests_none (A : Option Addr) (cap : Nat) (w : World) : Calls Try.prog 9 #[.slice A 0 cap] w (RqPost 0 [] w) := by
  go_enter Try.func9, Try.ntmps9
  go_wp2_with fail
  refine wp_loop_rounds 1 ?_
  rw [rounds_succ]
  go_wp2_with fail
  go_ret
  exact ⟨none, 0, rfl, ⟨rfl, .inl rfl⟩, Nat.le_refl _, Below.refl _ _⟩

theorem requests_any (A : Option Addr) (m capq : Nat) (rs : List Req) (w : World) (h : Row Req.list w A m rs) (hn : m ≤ 60) : Calls Try.prog 9 #[.slice A m capq] w (RqPost m rs w) := by
  obtain ⟨h1, h2 | ⟨b, o, rfl, hb, hr⟩⟩ := h
  · subst h2
    have hn0 : m = 0 := by simpa using h1
    subst hn0
    exact requests_none A capq w
  · exact requests_some b o m capq rs w hr hb h1 hn

end Go.Proofs.Ytbafgipegekbcaa
