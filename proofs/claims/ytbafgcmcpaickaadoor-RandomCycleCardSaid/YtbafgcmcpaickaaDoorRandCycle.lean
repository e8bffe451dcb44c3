/- The statement on up to 1000 numbers one after the other: no two are equal, and no two seeds are; it returns true, whatever the input, and leaves memory alone. -/
import Derived.Test.YtbafgcmcpaickaaDoorRandLoop
import Derived.Maps.Own
import Derived.Maps.OwnOps
import Derived.Maps.OwnSet
import Derived.Maps.Views
import Derived.Carry
namespace Go.Proofs.YtbafgcmcpaickaaDoor
open Go.RowKit Go.Maps

/-- None of the keys that were stored so far is another one than f 0, .., f (k - 1). -/
def NoKey (D : DataW Unit) (f : Nat → Nat) (k : Nat) : Prop :=
  ∀ x : Nat, (∀ j, j < k → f j ≠ x) → D.atKey (.int .u64 (x : Int)) (.lit (.bool false)) = .lit (.bool false)

theorem NoKey.start (f : Nat → Nat) : NoKey (.map []) f 0 := by
  intro x _
  rfl
theorem NoKey.step {D : DataW Unit} {f : Nat → Nat} {k : Nat} (h : NoKey D f k) : NoKey (D.put (.int .u64 (f k : Int)) (.lit (.bool true))) f (k + 1) := by
  intro x hx
  have hne : f k ≠ x := hx k (by omega)
  rw [atKey_put_other (by intro e; simp at e; omega)]
  exact h x (fun j hj => hx j (by omega))

theorem look_false {w : World} {b n : Nat} {D : DataW Unit} {x : Nat} (h : w.ownsMap Tryd.prog 22 (plainElem Tryd.prog 4) b n D) (hx : x < 18446744073709551616)
    (hat : D.atKey (.int .u64 (x : Int)) (.lit (.bool false)) = .lit (.bool false)) : (Instr.lookup 34 (.map (some b)) (.int .u64 (x : Int)) false).run Tryd.prog w = .ok (.bool false) w := by
  have hwf : (Lit.int .u64 (x : Int)).wf = true := WalkArith.wf_u64 (by omega)
  obtain ⟨v, ps, hrun, hv⟩ := h.lookup (int_keyed Tryd.underlying22) Tryd.underlying34 (z := .bool false) (by kernel_rfl) (plainElem_bool Tryd.underlying4 false) (keyOf_int_mk Tryd.underlying22 hwf)
  rw [hat] at hv
  have : v = .bool false := by
    unfold plainElem at hv
    rw [Tryd.underlying4] at hv
    cases v <;> simp at hv
    rw [hv.1]
  rw [this] at hrun
  exact hrun

theorem seq_num (s : Nat) {j k : Nat} (hk : k ≤ 1000) (hj : j < k) : Rand.num (Rand.seedAt s j) ≠ Rand.num (Rand.seedAt s k) := by
  intro h
  have h1 := Rand.num_inj _ _ (Rand.seedAt_lt s j) (Rand.seedAt_lt s k) h
  have h2 := Rand.seedAt_inj s j k (by unfold Rand.M; omega) (by unfold Rand.M; omega) h1
  omega
theorem seq_seed (s : Nat) {j k : Nat} (hk : k ≤ 1001) (hj : j < k) : Rand.seedAt s j ≠ Rand.seedAt s k := by
  intro h
  have h2 := Rand.seedAt_inj s j k (by unfold Rand.M; omega) (by unfold Rand.M; omega) h
  omega

theorem below_cell {w w1 : World} (h : Below w.heap.size w w1) {a : Addr} {v : Value} (hc : w.cell? a = some v) : w1.cell? a = some v := (h.cell (World.block_lt_of_cell? w a hc)).trans hc
theorem Table.below {w w1 : World} (ht : Table w) (h : Below w.heap.size w w1) : Table w1 := by
  obtain ⟨t0, t1, t2, t3, t4, t5⟩ := ht
  exact ⟨below_cell h t0, below_cell h t1, below_cell h t2, below_cell h t3, below_cell h t4, below_cell h t5⟩
theorem below_drewN' {B : Nat} {w W : World} (h : Below B w W) (n : Nat) : Below B w (W.drewN n) := ⟨h.os, h.tape, h.output, h.size, h.block⟩

/-- What holds at the begin of a round. -/
def CycInv (w : World) (s M k : Nat) (wr : World) : Prop :=
  ∃ D1 D2 : DataW Unit, k ≤ M ∧ wr.ownsMap Tryd.prog 22 (plainElem Tryd.prog 4) w.heap.size k D1 ∧ wr.ownsMap Tryd.prog 22 (plainElem Tryd.prog 4) (w.heap.size + 1) k D2 ∧
    NoKey D1 (fun j => Rand.num (Rand.seedAt s j)) k ∧ NoKey D2 (fun j => Rand.seedAt s (j + 1)) k ∧ Below w.heap.size w wr

theorem CycInv.start (w : World) (s M : Nat) (n : Nat) : CycInv w s M 0 (((w.drewN n).alloc (.map #[] 0)).alloc (.map #[] 0)) := by
  refine ⟨.map [], .map [], Nat.zero_le _, ?_, ?_, NoKey.start _, NoKey.start _, ?_⟩
  · exact (World.ownsMap_made (w.drewN n) _ _ _).alloc _
  · have h := World.ownsMap_made (H := Unit) ((w.drewN n).alloc (.map #[] 0)) Tryd.prog 22 (plainElem Tryd.prog 4)
    rw [World.size_alloc] at h
    exact h
  · exact ((below_dn w n).alloc (Nat.le_refl _) _).alloc (by simp) _

/-- One round more: both numbers have been stored. -/
theorem CycInv.step {w wr w1 w2 : World} {s M k n : Nat} {D1 D2 : DataW Unit} (hk : k < M) (h2 : (wr.drewN n).ownsMap Tryd.prog 22 (plainElem Tryd.prog 4) (w.heap.size + 1) k D2)
    (n1 : NoKey D1 (fun j => Rand.num (Rand.seedAt s j)) k) (n2 : NoKey D2 (fun j => Rand.seedAt s (j + 1)) k) (hb : Below w.heap.size w wr)
    (o1 : w1.ownsMap Tryd.prog 22 (plainElem Tryd.prog 4) w.heap.size (k + 1) (D1.put (.int .u64 (Rand.num (Rand.seedAt s k) : Nat)) (.lit (.bool true)))) (g1 : (wr.drewN n).grownBy w1 (some w.heap.size))
    (o2 : w2.ownsMap Tryd.prog 22 (plainElem Tryd.prog 4) (w.heap.size + 1) (k + 1) (D2.put (.int .u64 (Rand.seedAt s (k + 1) : Nat)) (.lit (.bool true)))) (g2 : w1.grownBy w2 (some (w.heap.size + 1))) :
    CycInv w s M (k + 1) w2 := by
  refine ⟨_, _, by omega, o1.kept g2 (by simp), o2, n1.step, n2.step, ?_⟩
  have hlt := h2.lt
  have b0 := below_drewN' hb n
  have b1 := b0.grown g1 (by simpa using hb.size) (fun j e => by cases e; exact Nat.le_refl _)
  exact b1.grown g2 (by have := o1.lt; omega) (fun j e => by cases e; omega)

set_option maxRecDepth 100000 in
theorem cycle_walk (s : Nat) (m : Int) (w : World) (hs : s < Rand.M) (hm0 : 0 ≤ m) (hm1 : m ≤ 65535) (ht : Table w) : Calls Tryd.prog 7 #[.int .u64 (s : Int), .int .u16 m] w fun e w' => e = .returned (.bool true) ∧ Below w.heap.size w w' := by
  have HT := Lib.hid ht
  have HS := Lib.hid (Rand.seedAt_zero s hs)
  have hmm := @run_makeMap Tryd.prog
  obtain ⟨M, hM⟩ : ∃ M : Nat, m % 1001 = (M : Int) := Int.eq_ofNat_of_zero_le (by omega)
  have hM1 : M ≤ 1000 := by omega
  have HM := Lib.hid hM
  have hq : 0 ≤ m % 1001 := by omega
  clear ht hs hM
  go_enter Tryd.func7, Tryd.ntmps7
  go_wp2_with fail
  refine (head_ok _ (by exact HT.out)).mono ?_
  rintro e w1 ⟨rfl, n0, rfl⟩
  go_wp2
  rw [HM.out]
  clear hmm
  go_loopw [0, 16] (fun sd i wr => ∃ k : Nat, i = .int .i64 k ∧ sd = .int .u64 (Rand.seedAt s k : Nat) ∧ CycInv w s M k wr) (fun _ i _ => M - (intOf i).toNat)
  case atStart => exact ⟨0, rfl, by rw [HS.out], CycInv.start w s M n0⟩
  case round =>
    obtain ⟨k, rfl, rfl, D1, D2, hk, ho1, ho2, hn1, hn2, hb⟩ := hrel
    have HB := Lib.hid hb
    have HO1 := Lib.hid ho1
    have HO2 := Lib.hid ho2
    have HN1 := Lib.hid hn1
    have HN2 := Lib.hid hn2
    clear hb ho1 ho2 hn1 hn2
    by_cases hlt : k < M
    · have HN := Lib.hid (Rand.seedAt_succ s k)
      have HX := Lib.hid (Rand.num_lt (Rand.seedAt s k))
      have HY := Lib.hid (Rand.seedAt_lt s (k + 1))
      have hse : (((Rand.seedAt s (k + 1) : Nat) : Int) == ((Rand.seedAt s k : Nat) : Int)) = false := eq_false (fun h => seq_seed s (by omega) (Nat.lt_succ_self k) h.symm)
      go_wp2_with fail
      refine (next_any (Rand.seedAt s k) _ (HT.out.below HB.out)).mono ?_
      rw [HN.out]
      rintro e w1 ⟨rfl, n1, rfl⟩
      have l1 := look_false (w := wr.drewN n1) HO1.out HX.out (HN1.out _ (fun j hj => seq_num s (by omega) hj))
      have l2 := look_false (w := wr.drewN n1) HO2.out HY.out (HN2.out _ (fun j hj => seq_seed s (by omega) (by omega)))
      have k1 : keyOf Tryd.prog 22 (.int .u64 (Rand.num (Rand.seedAt s k) : Nat)) = some (.int .u64 (Rand.num (Rand.seedAt s k) : Nat)) := keyOf_int_mk Tryd.underlying22 (WalkArith.wf_u64 (by have := HX.out; unfold Rand.M at this; omega))
      have k2 : keyOf Tryd.prog 22 (.int .u64 (Rand.seedAt s (k + 1) : Nat)) = some (.int .u64 (Rand.seedAt s (k + 1) : Nat)) := keyOf_int_mk Tryd.underlying22 (WalkArith.wf_u64 (by have := HY.out; unfold Rand.M at this; omega))
      have K1 := Lib.hid k1
      have K2 := Lib.hid k2
      clear k1 k2
      go_wp2_with (first
        | (at_mapUpdate; refine wpList_mapUpdate_own _ rfl (.tmp 36) (.tmp 37) _ 34 rfl 22 4 (int_keyed Tryd.underlying22) Tryd.underlying34 _ w.heap.size k _ rfl (by exact HO1.out) (by unfold maxLen; omega) _ _ _ rfl rfl K1.out _ [] (plainElem_bool Tryd.underlying4 true) ?_; intro w1 o1 g1)
        | (at_mapUpdate; refine wpList_mapUpdate_own _ rfl (.tmp 38) (.tmp 39) _ 34 rfl 22 4 (int_keyed Tryd.underlying22) Tryd.underlying34 _ (w.heap.size + 1) k _ rfl (World.ownsMap.kept (w := wr.drewN n1) HO2.out (by assumption) (by simp)) (by unfold maxLen; omega) _ _ _ rfl rfl K2.out _ [] (plainElem_bool Tryd.underlying4 true) ?_; intro w2 o2 g2))
      go_roundw
      case rel => exact ⟨k + 1, by go_num, rfl, CycInv.step hlt HO2.out HN1.out HN2.out HB.out (by assumption) (by assumption) (by assumption) (by assumption)⟩
      case measure => simp [intOf]; omega
    · obtain rfl : k = M := by omega
      go_wp2
      go_ret
      exact ⟨rfl, HB.out⟩

theorem cycle_entry (a0 a1 : Int) (w : World) (w0 : (Lit.int .u64 a0).wf = true) (w1 : (Lit.int .u16 a1).wf = true) (ht : Table w) :
    Calls Tryd.prog 7 #[.int .u64 a0, .int .u16 a1] w fun e w' => e = .returned (.bool true) ∧ Below w.heap.size w w' := by
  obtain ⟨s, rfl, hs⟩ := wf_u64 w0
  obtain ⟨h0, h1⟩ := wf_u16 w1
  exact cycle_walk s a1 w hs h0 h1 ht
end Go.Proofs.YtbafgcmcpaickaaDoor
