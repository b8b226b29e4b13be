/- Chapter 17: the payments whose amount is not 0: IndexFunc, DeleteFunc, positive. -/
import Derived.Test.YtbafgipegekbcaaPtC
namespace Go.Proofs.Ytbafgipegekbcaa
open Go.RowKit
set_option linter.unusedSimpArgs false
set_option linter.unusedVariables false
set_option maxRecDepth 20000

def delB (p : Pay) : Bool := p.amt == 0
def keepB (p : Pay) : Bool := !delB p

set_option maxHeartbeats 1000000 in
theorem pos1_any (p : Pay) (w : World) : Calls Try.prog 25 #[.agg p.list.toArray] w fun e w' => e = .returned (.bool (delB p)) ∧ Below w.heap.size w w' := by
  have hn := Nb.new w (.cells p.list.toArray 37)
  have e1 : (w.alloc (.cells p.list.toArray 37)).cell? ⟨w.heap.size, 1, none⟩ = some (.int .u64 p.amt) := hn.cell.trans rfl
  have HB := Lib.hid ((Below.refl w.heap.size w).alloc (Nat.le_refl _) (.cells p.list.toArray 37))
  clear hn
  go_enter Try.func25, Try.ntmps25
  go_wp2
  go_ret
  exact ⟨rfl, HB.out⟩

/-- The first that is struck, or -1. -/
def IdxPost (qs : List Pay) (w : World) (e : Ending) (w' : World) : Prop :=
  ∃ r : Int, e = .returned (.int .i64 r) ∧ ((r = -1 ∧ ∀ i (h : i < qs.length), delB qs[i] = false) ∨ ∃ (i : Nat) (h : i < qs.length), r = i ∧ delB qs[i] = true ∧ ∀ j (h : j < i), delB (qs[j]'(by omega)) = false) ∧ Below w.heap.size w w'

set_option maxHeartbeats 4000000 in
theorem index_some (b o n cap : Nat) (qs : List Pay) (w : World) (hr : w.rangeAt b o (flat Pay.list qs)) (hb : b < w.heap.size) (hlen : n = qs.length) (hn : n ≤ 1000) :
    Calls Try.prog 26 #[.slice (some ⟨b, o, none⟩) n cap, .func (.func 25) #[] #[]] w (IdxPost qs w) := by
  have HR := Lib.hid hr
  have HL := Lib.hid hlen
  clear hr hlen
  go_enter Try.func26, Try.ntmps26
  go_wp2_with fail
  go_loopw [8] (fun i wr => ∃ j : Nat, j ≤ n ∧ i = .int .i64 j ∧ Hid (∀ m (h : m < qs.length), m < j → delB qs[m] = false) ∧ Hid (Below w.heap.size w wr)) (fun i _ => n - (intOf i).toNat)
  case atStart => exact ⟨0, Nat.zero_le _, rfl, fun m h h' => by omega, Below.refl _ _⟩
  case round =>
    obtain ⟨j, hj, rfl, HD, HB⟩ := hrel
    by_cases hlt : j < n
    · have hjl : j < qs.length := by have := HL.out; omega
      have hcr : wr.rangeAt b (o + j * 3) qs[j].list := fun i v hv => (HB.out.cell (p := ⟨b, _, none⟩) hb).trans (Row.elem Pay.len HR.out j hjl i v hv)
      have HC := Lib.hid hcr
      have HP := Lib.hid (fun w => pos1_any qs[j] w)
      obtain ⟨p, hp⟩ : ∃ p, qs[j] = p := ⟨_, rfl⟩
      rw [hp] at HC HP
      have HPE := Lib.hid hp
      clear hcr hp
      have hjn : (j : Int) < (n : Int) := by omega
      have hj0 : (0 : Int) ≤ (j : Int) := by omega
      go_wp2_with (first | ((with_reducible show wpList _ _ _ (⟨some 15, _, _, _, _, _⟩ :: _) _ _); refine halted ?_) | fail)
      unfold Halted
      refine wpList_load_part p.list 37 (.tmp 14) rfl rfl rfl HC.out _ Try.underlying37 rfl p.infoL ?_
      go_wp2_with fail
      refine (HP.out _).mono ?_
      rintro en w1 ⟨rfl, hb1⟩
      have HB1 := Lib.hid (HB.out.trans (hb1.mono HB.out.size))
      clear hb1
      cases hd : delB p
      · have HD' : Hid (∀ m (h : m < qs.length), m < j + 1 → delB qs[m] = false) := fun m h h' => by
          by_cases e : m = j
          · subst e; rw [HPE.out]; exact hd
          · exact HD.out m h (by omega)
        clear hd
        go_wp2_with fail
        go_roundw
        case rel => exact ⟨j + 1, by omega, by go_num, HD', HB1⟩
        case measure => simp [intOf]; omega
      · have HDD := Lib.hid hd
        clear hd
        go_wp2_with fail
        go_ret
        exact ⟨_, rfl, .inr ⟨j, hjl, rfl, by rw [HPE.out]; exact HDD.out, fun m h => HD.out m (by omega) h⟩, HB1.out⟩
    · go_wp2_with fail
      go_ret
      exact ⟨_, rfl, .inl ⟨rfl, fun m h => HD.out m h (by have := HL.out; omega)⟩, HB.out⟩

set_option maxHeartbeats 1000000 in
theorem index_none (A : Option Addr) (cap : Nat) (w : World) : Calls Try.prog 26 #[.slice A 0 cap, .func (.func 25) #[] #[]] w (IdxPost [] w) := by
  go_enter Try.func26, Try.ntmps26
  go_wp2_with fail
  refine wp_loop_rounds 1 ?_
  rw [rounds_succ]
  go_wp2_with fail
  go_ret
  exact ⟨_, rfl, .inl ⟨rfl, fun i h => by simp at h⟩, Below.refl _ _⟩

theorem index_any (A : Option Addr) (n cap : Nat) (qs : List Pay) (w : World) (h : Row Pay.list w A n qs) (hn : n ≤ 1000) :
    Calls Try.prog 26 #[.slice A n cap, .func (.func 25) #[] #[]] w (IdxPost qs w) := by
  obtain ⟨h1, h2 | ⟨b, o, rfl, hb, hr⟩⟩ := h
  · subst h2
    have hn0 : n = 0 := by simpa using h1
    subst hn0
    exact index_none A cap w
  · exact index_some b o n cap qs w hr hb h1 hn

/-- 'clear(s)' at elements of several cells. -/
theorem wpList_clear_row {P : Program} {ops : Array Oper} {rest : List Oper} {o : Oper} {a : Act} {Q : Exit → Act → World → Prop} {w : World} {t e : TypeId} {z : Value} {k b off n c : Nat} {x : Operand} (hgd : o.guard = none) (ho : o.op = .call { callee := .builtin .clear, args := #[x], argTypes := #[t] })
    (ht : P.underlying t = some (.slice e)) (hz : ∀ w, (zeroValue e).run P w = .ok z w) (hk : z.cells.size = k) (h1 : z.cells.all (·.oneCell') = true) (hx : a.eval x = .slice (some ⟨b, off, none⟩) n c) (hn : 0 < n) (hth : w.there b off (n * k))
    (h : ∀ zs : List Value, zs.length = n * k → wpList P ops Q rest (a.put o.dst (.tuple #[])) (w.setCells b off zs)) : wpList P ops Q (o :: rest) a w := by
  have hsz : (Builtin.zeroCells z.cells n).size = n * k := by rw [size_zeroCells, hk]
  have hone : ∀ v ∈ (Builtin.zeroCells z.cells n).toList, v.oneCell' = true := by
    intro v hv
    obtain ⟨i, hi, rfl⟩ := List.getElem_of_mem hv
    rw [Array.length_toList, hsz] at hi
    have hk0 : 0 < k := by
      rcases Nat.eq_zero_or_pos k with h | h
      · subst h; simp at hi
      · exact h
    have hm : i % z.cells.size < z.cells.size := Nat.mod_lt _ (by omega)
    have := Array.all_eq_true_iff_forall_mem.1 h1 _ (Array.getElem_mem hm)
    simpa [Builtin.zeroCells, hm] using this
  have hst := run_storeCells_cells (P := P) b off (Builtin.zeroCells z.cells n).toList 0 w (fun j hj => by simpa using (hth j (by rw [Array.length_toList, hsz] at hj; exact hj)).1) (fun j hj => by simpa using (hth j (by rw [Array.length_toList, hsz] at hj; exact hj)).2) hone
  simp only [Nat.add_zero] at hst
  obtain ⟨m, rfl⟩ : ∃ m, n = m + 1 := ⟨n - 1, by omega⟩
  have hrun : (Builtin.clear_ #[t] o.type #[.slice (some ⟨b, off, none⟩) (m + 1) c]).run P w = .ok (.tuple #[]) (w.setCells b off (Builtin.zeroCells z.cells (m + 1)).toList) := by
    simp [Builtin.clear_, run_underlying ht, hz, hst]
  refine wpList_plain hgd fun K hK => ?_
  unfold Oper.wp
  simp [execOp, ho, resolve, invoke, builtin, hx, hrun, Result.andThen]
  exact hK _ _ (h _ (by rw [Array.length_toList, hsz]))

theorem flat_take {α : Type} {f : α → List Value} {k : Nat} (hk : ∀ x, (f x).length = k) : ∀ (xs : List α) (i : Nat), (flat f xs).take (i * k) = flat f (xs.take i)
  | [], i => by simp [flat]
  | x :: t, 0 => by simp [flat]
  | x :: t, i + 1 => by
    rw [flat_cons, List.take_succ_cons, flat_cons, Nat.succ_mul, Nat.add_comm (i * k) k]
    rw [show k + i * k = (f x).length + i * k from by rw [hk], List.take_length_add_append, flat_take hk t i]
theorem setL_take (vs : List Value) : ∀ (xs : List Value) (j : Nat), (setL xs j vs).take j = xs.take j := by
  induction vs with
  | nil => intro xs j; rfl
  | cons v r ih =>
    intro xs j
    rw [setL]
    have h1 := ih (xs.set j v) (j + 1)
    have h2 := congrArg (List.take j) h1
    rw [List.take_take, List.take_take, Nat.min_eq_left (by omega)] at h2
    rw [h2]
    exact List.take_set_of_le (by omega)
theorem own_prefix {w : World} {base e : TypeId} {k g n m cap : Nat} {xs : List Value} (h : w.ownsRow base e k (.slice (some ⟨g, 0, none⟩) n cap) n xs) (hm : m ≤ n) : w.ownsRow base e k (.slice (some ⟨g, 0, none⟩) m cap) m (xs.take (m * k)) := by
  obtain ⟨h1, h2⟩ := h
  have hle : m * k ≤ n * k := Nat.mul_le_mul_right k hm
  refine ⟨by rw [List.length_take, h1]; omega, ?_⟩
  rcases h2 with ⟨h2, _⟩ | ⟨g', cap', cur, hv, hb, hg, hc, hcm, hs, ht⟩
  · cases h2
  · simp only [Value.slice.injEq, Option.some.injEq, Addr.mk.injEq, and_true, true_and] at hv
    obtain ⟨rfl, rfl⟩ := hv
    exact .inr ⟨g, cap, cur, rfl, hb, hg, by omega, hcm, hs, by rw [← ht, List.take_take, Nat.min_eq_left hle]⟩

end Go.Proofs.Ytbafgipegekbcaa
