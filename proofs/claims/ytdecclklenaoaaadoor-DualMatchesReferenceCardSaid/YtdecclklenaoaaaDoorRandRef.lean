/- The reference of package random returns the same numbers; the fixed examples of the statements hold. -/
import Derived.Test.YtdecclklenaoaaaDoorRandWalk
namespace Go.Proofs.YtdecclklenaoaaaDoor
open Go.RowKit

theorem quo_int (x : Nat) (P : Int) (p : Nat) (hP : P = (p : Int)) (hx : x < 18446744073709551616) : IntKind.u64.wrap ((x : Int).tdiv P) = (x : Int) / P := by
  subst hP
  rw [Int.tdiv_eq_ediv_of_nonneg (Int.natCast_nonneg _), wrap_u64]
  have h0 : 0 ≤ (x : Int) / (p : Int) := Int.ediv_nonneg (Int.natCast_nonneg _) (Int.natCast_nonneg _)
  have h1 : (x : Int) / (p : Int) ≤ x := Int.ediv_le_self _ (Int.natCast_nonneg _)
  omega
theorem mix_end (k p x : Nat) (P : Int) (hP : P = (p : Int)) (hp : p = 2 ^ k) (hx : x < 18446744073709551616) : bits .xor .u64 (x : Int) ((x : Int) / P) = ((Rand.mix k 1 x : Nat) : Int) := by
  have h := mix_int k p 1 x P 1 hP rfl hp hx
  rw [Int.mul_one] at h
  subst hP
  have e : ((x : Int) / (p : Int)) = ((x / p : Nat) : Int) := by simp
  have hl : x / p < 18446744073709551616 := Nat.lt_of_le_of_lt (Nat.div_le_self _ _) hx
  rw [← h, e, u64_xor_nat x (x / p) hx hl, wrap_u64]
  have h2 : x ^^^ x / p < 2 ^ 64 := Nat.xor_lt_two_pow (by omega) (by omega)
  omega

set_option maxRecDepth 100000 in
theorem rnext_any (s : Nat) (w : World) :
    Calls Tryd.prog 46 #[.int .u64 (s : Int)] w fun e w' => e = .returned (.tuple #[.int .u64 (Rand.num s : Int), .int .u64 (Rand.nextSeed s : Int)]) ∧ w = w' := by
  have E1 := Lib.hid (next_int s)
  have E2 := Lib.hid (mix_int 30 1073741824 13787848793156543929 (Rand.nextSeed s) 1073741824 13787848793156543929 rfl rfl rfl (Rand.nextSeed_lt s))
  have E3 := Lib.hid (mix_int 27 134217728 10723151780598845931 _ 134217728 10723151780598845931 rfl rfl rfl (Rand.mix_lt 30 13787848793156543929 (Rand.nextSeed s)))
  have E4 := Lib.hid (mix_end 31 2147483648 _ 2147483648 rfl rfl (Rand.mix_lt 27 10723151780598845931 (Rand.mix 30 13787848793156543929 (Rand.nextSeed s))))
  have Q2 := Lib.hid (quo_int (Rand.nextSeed s) 1073741824 1073741824 rfl (Rand.nextSeed_lt s))
  have Q3 := Lib.hid (quo_int _ 134217728 134217728 rfl (Rand.mix_lt 30 13787848793156543929 (Rand.nextSeed s)))
  have Q4 := Lib.hid (quo_int _ 2147483648 2147483648 rfl (Rand.mix_lt 27 10723151780598845931 (Rand.mix 30 13787848793156543929 (Rand.nextSeed s))))
  go_enter Tryd.func46, Tryd.ntmps46
  go_wp2
  go_ret2
  refine ⟨?_, rfl⟩
  have e1 := E1.out
  have e2 := E2.out
  have e3 := E3.out
  have e4 := E4.out
  have q2 := Q2.out
  have q3 := Q3.out
  have q4 := Q4.out
  simp only [e1, e2, e3, e4, q2, q3, q4]
  rfl

set_option maxRecDepth 100000 in
theorem rbelow_bad (s : Nat) (n : Int) (w : World) (h : n < 1 ∨ 1000000000 < n) :
    Calls Tryd.prog 36 #[.int .u64 (s : Int), .int .i64 n] w fun e w' => e = .returned (.tuple #[.int .i64 0, .int .u64 0, .int .i64 1]) ∧ w = w' := by
  rcases h with h | h
  · go_enter Tryd.func36, Tryd.ntmps36
    go_wp2
    go_ret3
    exact ⟨rfl, rfl⟩
  · have h1 : ¬ n < 1 := by omega
    go_enter Tryd.func36, Tryd.ntmps36
    go_wp2
    go_ret3
    exact ⟨rfl, rfl⟩
set_option maxRecDepth 100000 in
theorem rbelow_ok (s : Nat) (n : Int) (w : World) (h1 : 1 ≤ n) (h2 : n ≤ 1000000000) :
    Calls Tryd.prog 36 #[.int .u64 (s : Int), .int .i64 n] w fun e w' => e = .returned (.tuple #[.int .i64 ((Rand.num s : Int) / 4294967296 % n), .int .u64 (Rand.nextSeed s : Int), .int .i64 0]) ∧ w = w' := by
  have hb : (Rand.num s : Int) / 4294967296 ≤ 4294967295 := by have := Rand.num_lt s; unfold Rand.M at this; omega
  go_enter Tryd.func36, Tryd.ntmps36
  go_wp2_with (go_at_call 46; refine (rnext_any s _).mono ?_; rintro e w' ⟨rfl, rfl⟩)
  go_ret3
  exact ⟨rfl, rfl⟩
end Go.Proofs.YtdecclklenaoaaaDoor
