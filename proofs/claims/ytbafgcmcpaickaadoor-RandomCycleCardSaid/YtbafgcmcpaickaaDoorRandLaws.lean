/- The statements on package random that have no map: each returns true, whatever the input, and leaves memory alone. -/
import Derived.Test.YtbafgcmcpaickaaDoorRandHead
namespace Go.Proofs.YtbafgcmcpaickaaDoor
open Go.RowKit

theorem below_dn (w : World) (n : Nat) : Below w.heap.size w (w.drewN n) := ⟨rfl, rfl, rfl, Nat.le_refl _, fun _ _ => rfl⟩

set_option maxRecDepth 100000 in
theorem matches_walk (s : Nat) (n : Int) (w : World) (ht : Table w) : Calls Tryd.prog 3 #[.int .u64 (s : Int), .int .i64 n] w fun e w' => e = .returned (.bool true) ∧ Below w.heap.size w w' := by
  have HT := Lib.hid ht
  clear ht
  by_cases hn : 1 ≤ n ∧ n ≤ 1000000000
  · obtain ⟨h1, h2⟩ := hn
    go_enter Tryd.func3, Tryd.ntmps3
    go_wp2_with fail
    refine (head_ok _ (by exact HT.out)).mono ?_
    rintro e w1 ⟨rfl, n0, rfl⟩
    go_wp2_with fail
    refine (next_any s _ (by exact HT.out)).mono ?_
    rintro e w1 ⟨rfl, n1, rfl⟩
    go_wp2_with fail
    refine (rnext_any s _).mono ?_
    rintro e w1 ⟨rfl, rfl⟩
    go_wp2_with fail
    refine (below_ok s n _ (by exact HT.out) h1 h2).mono ?_
    rintro e w1 ⟨rfl, n2, rfl⟩
    go_wp2_with fail
    refine (rbelow_ok s n _ h1 h2).mono ?_
    rintro e w1 ⟨rfl, rfl⟩
    go_wp2
    go_ret
    exact ⟨rfl, below_dn _ _⟩
  · have hn' : n < 1 ∨ 1000000000 < n := by omega
    clear hn
    have HN := Lib.hid hn'
    clear hn'
    go_enter Tryd.func3, Tryd.ntmps3
    go_wp2_with fail
    refine (head_ok _ (by exact HT.out)).mono ?_
    rintro e w1 ⟨rfl, n0, rfl⟩
    go_wp2_with fail
    refine (next_any s _ (by exact HT.out)).mono ?_
    rintro e w1 ⟨rfl, n1, rfl⟩
    go_wp2_with fail
    refine (rnext_any s _).mono ?_
    rintro e w1 ⟨rfl, rfl⟩
    go_wp2_with fail
    refine (below_bad s n _ HN.out).mono ?_
    rintro e w1 ⟨rfl, rfl⟩
    go_wp2_with fail
    refine (rbelow_bad s n _ HN.out).mono ?_
    rintro e w1 ⟨rfl, rfl⟩
    go_wp2
    go_ret
    exact ⟨rfl, below_dn _ _⟩

theorem eq_false {a b : Nat} (h : a ≠ b) : (((a : Nat) : Int) == ((b : Nat) : Int)) = false := by
  rw [beq_eq_false_iff_ne]; omega
set_option maxRecDepth 100000 in
theorem distinct_walk (a b : Nat) (w : World) (ha : a < Rand.M) (hb : b < Rand.M) (ht : Table w) : Calls Tryd.prog 4 #[.int .u64 (a : Int), .int .u64 (b : Int)] w fun e w' => e = .returned (.bool true) ∧ Below w.heap.size w w' := by
  have HT := Lib.hid ht
  clear ht
  by_cases hab : a = b
  · subst hab
    clear ha hb
    go_enter Tryd.func4, Tryd.ntmps4
    go_wp2_with fail
    refine (head_ok _ (by exact HT.out)).mono ?_
    rintro e w1 ⟨rfl, n0, rfl⟩
    go_wp2_with fail
    refine (next_any a _ (by exact HT.out)).mono ?_
    rintro e w1 ⟨rfl, n1, rfl⟩
    go_wp2_with fail
    refine (next_any a _ (by exact HT.out)).mono ?_
    rintro e w1 ⟨rfl, n2, rfl⟩
    go_wp2
    go_ret
    exact ⟨rfl, below_dn _ _⟩
  · have e1 := eq_false hab
    have e2 := eq_false (fun h => hab (Rand.num_inj a b ha hb h))
    have e3 := eq_false (fun h => hab (Rand.nextSeed_inj a b ha hb h))
    clear hab ha hb
    go_enter Tryd.func4, Tryd.ntmps4
    go_wp2_with fail
    refine (head_ok _ (by exact HT.out)).mono ?_
    rintro e w1 ⟨rfl, n0, rfl⟩
    go_wp2_with fail
    refine (next_any a _ (by exact HT.out)).mono ?_
    rintro e w1 ⟨rfl, n1, rfl⟩
    go_wp2_with fail
    refine (next_any b _ (by exact HT.out)).mono ?_
    rintro e w1 ⟨rfl, n2, rfl⟩
    go_wp2
    go_ret
    exact ⟨rfl, below_dn _ _⟩

set_option maxRecDepth 100000 in
theorem range_bad (s : Nat) (n k : Int) (w : World) (ht : Table w) (hn : n < 1 ∨ 1000000000 < n) : Calls Tryd.prog 5 #[.int .u64 (s : Int), .int .i64 n, .int .u8 k] w fun e w' => e = .returned (.bool true) ∧ Below w.heap.size w w' := by
  have HT := Lib.hid ht
  have HN := Lib.hid hn
  clear ht hn
  rcases HN.out with h | h
  · go_enter Tryd.func5, Tryd.ntmps5
    go_wp2_with fail
    refine (head_ok _ (by exact HT.out)).mono ?_
    rintro e w1 ⟨rfl, n0, rfl⟩
    go_wp2_with fail
    refine (below_bad s n _ HN.out).mono ?_
    rintro e w1 ⟨rfl, rfl⟩
    go_wp2
    go_ret
    exact ⟨rfl, below_dn _ _⟩
  · have h1 : ¬ n < 1 := by omega
    go_enter Tryd.func5, Tryd.ntmps5
    go_wp2_with fail
    refine (head_ok _ (by exact HT.out)).mono ?_
    rintro e w1 ⟨rfl, n0, rfl⟩
    go_wp2_with fail
    refine (below_bad s n _ HN.out).mono ?_
    rintro e w1 ⟨rfl, rfl⟩
    go_wp2
    go_ret
    exact ⟨rfl, below_dn _ _⟩
theorem range_mod (x n k : Int) : x % (n * k) % n = x % n := Int.emod_emod_of_dvd x ⟨k, rfl⟩
set_option maxRecDepth 100000 in
theorem range_far (s : Nat) (n k : Int) (w : World) (ht : Table w) (h1 : 1 ≤ n) (h2 : n ≤ 1000000000) (hk0 : 0 ≤ k) (hk : k ≤ 255) (hf : 1000000000 / (1 + k) < n) : Calls Tryd.prog 5 #[.int .u64 (s : Int), .int .i64 n, .int .u8 k] w fun e w' => e = .returned (.bool true) ∧ Below w.heap.size w w' := by
  have HT := Lib.hid ht
  clear ht
  have hx0 : 0 ≤ (Rand.num s : Int) / 4294967296 % n := Int.emod_nonneg _ (by omega)
  have hx1 : (Rand.num s : Int) / 4294967296 % n < n := Int.emod_lt_of_pos _ (by omega)
  generalize hX : (Rand.num s : Int) / 4294967296 % n = X at hx0 hx1
  have HX := Lib.hid hX
  clear hX
  go_enter Tryd.func5, Tryd.ntmps5
  go_wp2_with fail
  refine (head_ok _ (by exact HT.out)).mono ?_
  rintro e w1 ⟨rfl, n0, rfl⟩
  go_wp2_with fail
  refine (below_ok s n _ (by exact HT.out) h1 h2).mono ?_
  rw [HX.out]
  rintro e w1 ⟨rfl, n1, rfl⟩
  go_wp2_with fail
  refine (next_any s _ (by exact HT.out)).mono ?_
  rintro e w1 ⟨rfl, n2, rfl⟩
  go_wp2_with fail
  refine (below_ok s 1 _ (by exact HT.out) (by omega) (by omega)).mono ?_
  rintro e w1 ⟨rfl, n3, rfl⟩
  go_wp2
  go_ret
  exact ⟨rfl, below_dn _ _⟩
set_option maxRecDepth 100000 in
theorem range_near (s : Nat) (n k : Int) (w : World) (ht : Table w) (h1 : 1 ≤ n) (h2 : n ≤ 1000000000) (hk0 : 0 ≤ k) (hk : k ≤ 255) (hf : ¬ 1000000000 / (1 + k) < n) : Calls Tryd.prog 5 #[.int .u64 (s : Int), .int .i64 n, .int .u8 k] w fun e w' => e = .returned (.bool true) ∧ Below w.heap.size w w' := by
  have HT := Lib.hid ht
  clear ht
  have hx0 : 0 ≤ (Rand.num s : Int) / 4294967296 % n := Int.emod_nonneg _ (by omega)
  have hx1 : (Rand.num s : Int) / 4294967296 % n < n := Int.emod_lt_of_pos _ (by omega)
  have hmul : n * (1 + k) ≤ 1000000000 := by
    have h3 : n ≤ 1000000000 / (1 + k) := by omega
    have h4 := (Int.le_ediv_iff_mul_le (by omega : 0 < 1 + k)).1 h3
    exact h4
  have hmul1 : 1 ≤ n * (1 + k) := by
    have : 0 < n * (1 + k) := Int.mul_pos (by omega) (by omega)
    omega
  have hY := range_mod ((Rand.num s : Int) / 4294967296) n (1 + k)
  have hy0 : 0 ≤ (Rand.num s : Int) / 4294967296 % (n * (1 + k)) := Int.emod_nonneg _ (by omega)
  generalize hX : (Rand.num s : Int) / 4294967296 % n = X at hx0 hx1 hY
  generalize hZ : (Rand.num s : Int) / 4294967296 % (n * (1 + k)) = Z at hY hy0
  have HX := Lib.hid hX
  have HZ := Lib.hid hZ
  clear hX hZ
  go_enter Tryd.func5, Tryd.ntmps5
  go_wp2_with fail
  refine (head_ok _ (by exact HT.out)).mono ?_
  rintro e w1 ⟨rfl, n0, rfl⟩
  go_wp2_with fail
  refine (below_ok s n _ (by exact HT.out) h1 h2).mono ?_
  rw [HX.out]
  rintro e w1 ⟨rfl, n1, rfl⟩
  go_wp2_with fail
  refine (next_any s _ (by exact HT.out)).mono ?_
  rintro e w1 ⟨rfl, n2, rfl⟩
  go_wp2_with fail
  refine (below_ok s 1 _ (by exact HT.out) (by omega) (by omega)).mono ?_
  rintro e w1 ⟨rfl, n3, rfl⟩
  go_wp2_with fail
  refine (below_ok s (n * (1 + k)) _ (by exact HT.out) hmul1 hmul).mono ?_
  rw [HZ.out]
  rintro e w1 ⟨rfl, n4, rfl⟩
  go_wp2
  go_ret
  exact ⟨rfl, below_dn _ _⟩

end Go.Proofs.YtbafgcmcpaickaaDoor
