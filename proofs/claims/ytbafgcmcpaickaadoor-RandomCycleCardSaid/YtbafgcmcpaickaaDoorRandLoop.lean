/- The statement on the seed after some steps: it returns true, whatever the input, and leaves memory alone. -/
import Derived.Test.YtbafgcmcpaickaaDoorRandLaws
namespace Go.Proofs.YtbafgcmcpaickaaDoor
open Go.RowKit

theorem steps_end (s m : Nat) : (((Rand.seedAt s m : Nat) : Int) == IntKind.u64.wrap ((s : Int) + IntKind.u64.wrap ((m : Int) * 11400714819323198485))) = true := by
  rw [beq_iff_eq, wrap_u64, wrap_u64]
  unfold Rand.seedAt Rand.step Rand.M
  simp only [Int.natCast_emod, Int.natCast_add, Int.natCast_mul, Int.add_emod_emod]
  rfl
set_option maxRecDepth 100000 in
theorem steps_walk (s m : Nat) (w : World) (hs : s < Rand.M) (hm : m ≤ 65535) (ht : Table w) : Calls Tryd.prog 6 #[.int .u64 (s : Int), .int .u16 (m : Int)] w fun e w' => e = .returned (.bool true) ∧ Below w.heap.size w w' := by
  have HT := Lib.hid ht
  have HS := Lib.hid (Rand.seedAt_zero s hs)
  clear ht hs
  go_enter Tryd.func6, Tryd.ntmps6
  go_wp2_with fail
  refine (head_ok _ (by exact HT.out)).mono ?_
  rintro e w1 ⟨rfl, n0, rfl⟩
  go_wp2
  go_loopw [6, 10] (fun now i wr => ∃ k : Nat, k ≤ m ∧ i = .int .u16 k ∧ now = .int .u64 (Rand.seedAt s k : Nat) ∧ ∃ n, wr = w.drewN n) (fun _ i _ => m - (intOf i).toNat)
  case atStart => exact ⟨0, Nat.zero_le _, rfl, by rw [HS.out], _, rfl⟩
  case round =>
    obtain ⟨k, hk, rfl, rfl, n, rfl⟩ := hrel
    by_cases hlt : k < m
    · have HN := Lib.hid (Rand.seedAt_succ s k)
      go_wp2_with fail
      refine (next_any (Rand.seedAt s k) _ (by exact HT.out)).mono ?_
      rw [HN.out]
      rintro e w1 ⟨rfl, n1, rfl⟩
      go_wp2
      go_roundw
      case rel => exact ⟨k + 1, by omega, by go_num, rfl, _, rfl⟩
      case measure => simp [intOf]; omega
    · obtain rfl : k = m := by omega
      have HE := Lib.hid (steps_end s k)
      go_wp2
      go_ret
      exact ⟨congrArg (fun b => Ending.returned (Value.bool b)) HE.out, below_dn _ _⟩

set_option maxRecDepth 100000 in
theorem pair_walk (s : Nat) (n m : Int) (w : World) (hn : 0 ≤ n ∧ n ≤ 65535) (hm : 0 ≤ m ∧ m ≤ 65535) (ht : Table w) : Calls Tryd.prog 8 #[.int .u64 (s : Int), .int .u16 n, .int .u16 m] w fun e w' => e = .returned (.bool true) ∧ Below w.heap.size w w' := by
  have HT := Lib.hid ht
  obtain ⟨hn0, hn1⟩ := hn
  obtain ⟨hm0, hm1⟩ := hm
  have hb : (Rand.num s : Int) / 4294967296 ≤ 4294967295 := by have := Rand.num_lt s; unfold Rand.M at this; omega
  have hc : (Rand.num (Rand.nextSeed s) : Int) / 4294967296 ≤ 4294967295 := by have := Rand.num_lt (Rand.nextSeed s); unfold Rand.M at this; omega
  clear ht
  go_enter Tryd.func8, Tryd.ntmps8
  go_wp2_with fail
  refine (head_ok _ (by exact HT.out)).mono ?_
  rintro e w1 ⟨rfl, n0, rfl⟩
  go_wp2_with fail
  refine (below_ok s (1 + n) _ (by exact HT.out) (by omega) (by omega)).mono ?_
  rintro e w1 ⟨rfl, n1, rfl⟩
  go_wp2_with fail
  refine (below_ok (Rand.nextSeed s) (1 + m) _ (by exact HT.out) (by omega) (by omega)).mono ?_
  rintro e w1 ⟨rfl, n2, rfl⟩
  go_wp2_with fail
  refine (next_any s _ (by exact HT.out)).mono ?_
  rintro e w1 ⟨rfl, n3, rfl⟩
  go_wp2_with fail
  refine (next_any (Rand.nextSeed s) _ (by exact HT.out)).mono ?_
  rintro e w1 ⟨rfl, n4, rfl⟩
  go_wp2
  go_ret
  exact ⟨rfl, below_dn _ _⟩

/-! The entries: an argument as an integer of its kind. -/
theorem wf_u64 {n : Int} (h : (Lit.int .u64 n).wf = true) : ∃ s : Nat, n = (s : Int) ∧ s < 18446744073709551616 := by
  have h1 : IntKind.u64.min = 0 := rfl
  have h2 : IntKind.u64.max = 18446744073709551615 := rfl
  simp only [Lit.wf, Bool.and_eq_true, decide_eq_true_eq, h1, h2] at h
  exact ⟨n.toNat, by omega, by omega⟩
theorem wf_u16 {n : Int} (h : (Lit.int .u16 n).wf = true) : 0 ≤ n ∧ n ≤ 65535 := by
  have h1 : IntKind.u16.min = 0 := rfl
  have h2 : IntKind.u16.max = 65535 := rfl
  simp only [Lit.wf, Bool.and_eq_true, decide_eq_true_eq, h1, h2] at h
  exact h
theorem wf_u8 {n : Int} (h : (Lit.int .u8 n).wf = true) : 0 ≤ n ∧ n ≤ 255 := by
  have h1 : IntKind.u8.min = 0 := rfl
  have h2 : IntKind.u8.max = 255 := rfl
  simp only [Lit.wf, Bool.and_eq_true, decide_eq_true_eq, h1, h2] at h
  exact h
theorem matches_entry (a0 a1 : Int) (w : World) (w0 : (Lit.int .u64 a0).wf = true) (_w1 : (Lit.int .i64 a1).wf = true) (ht : Table w) :
    Calls Tryd.prog 3 #[.int .u64 a0, .int .i64 a1] w fun e w' => e = .returned (.bool true) ∧ Below w.heap.size w w' := by
  obtain ⟨s, rfl, _⟩ := wf_u64 w0
  exact matches_walk s a1 w ht
theorem distinct_entry (a0 a1 : Int) (w : World) (w0 : (Lit.int .u64 a0).wf = true) (w1 : (Lit.int .u64 a1).wf = true) (ht : Table w) :
    Calls Tryd.prog 4 #[.int .u64 a0, .int .u64 a1] w fun e w' => e = .returned (.bool true) ∧ Below w.heap.size w w' := by
  obtain ⟨s, rfl, hs⟩ := wf_u64 w0
  obtain ⟨t, rfl, hu⟩ := wf_u64 w1
  exact distinct_walk s t w hs hu ht
theorem range_entry (a0 a1 a2 : Int) (w : World) (w0 : (Lit.int .u64 a0).wf = true) (_w1 : (Lit.int .i64 a1).wf = true) (w2 : (Lit.int .u8 a2).wf = true) (ht : Table w) :
    Calls Tryd.prog 5 #[.int .u64 a0, .int .i64 a1, .int .u8 a2] w fun e w' => e = .returned (.bool true) ∧ Below w.heap.size w w' := by
  obtain ⟨s, rfl, hs⟩ := wf_u64 w0
  obtain ⟨h0, h1⟩ := wf_u8 w2
  by_cases hn : a1 < 1 ∨ 1000000000 < a1
  · exact range_bad s a1 a2 w ht hn
  · by_cases hf : 1000000000 / (1 + a2) < a1
    · exact range_far s a1 a2 w ht (by omega) (by omega) h0 h1 hf
    · exact range_near s a1 a2 w ht (by omega) (by omega) h0 h1 hf
theorem steps_entry (a0 a1 : Int) (w : World) (w0 : (Lit.int .u64 a0).wf = true) (w1 : (Lit.int .u16 a1).wf = true) (ht : Table w) :
    Calls Tryd.prog 6 #[.int .u64 a0, .int .u16 a1] w fun e w' => e = .returned (.bool true) ∧ Below w.heap.size w w' := by
  obtain ⟨s, rfl, hs⟩ := wf_u64 w0
  obtain ⟨h0, h1⟩ := wf_u16 w1
  obtain ⟨m, rfl⟩ := Int.eq_ofNat_of_zero_le h0
  exact steps_walk s m w hs (by omega) ht
theorem pair_entry (a0 a1 a2 : Int) (w : World) (w0 : (Lit.int .u64 a0).wf = true) (w1 : (Lit.int .u16 a1).wf = true) (w2 : (Lit.int .u16 a2).wf = true) (ht : Table w) :
    Calls Tryd.prog 8 #[.int .u64 a0, .int .u16 a1, .int .u16 a2] w fun e w' => e = .returned (.bool true) ∧ Below w.heap.size w w' := by
  obtain ⟨s, rfl, hs⟩ := wf_u64 w0
  exact pair_walk s a1 a2 w (wf_u16 w1) (wf_u16 w2) ht
end Go.Proofs.YtbafgcmcpaickaaDoor
