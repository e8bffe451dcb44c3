/- Package random: the two functions return the plain numbers, and leave memory alone. -/
import Derived.Test.YtfeemiamjmmolaaDoorProg
import Derived.Test.YtfeemiamjmmolaaDoorRandMath
import Derived.WalkKit
import Derived.Outline
import Derived.LoopN
import Derived.Deep.QuietTactic
import Derived.BigQuiet
import Derived.WalkSpells
import Derived.Lib.Hide
import Derived.Laws.BitsAllLaws
namespace Go.Proofs.YtfeemiamjmmolaaDoor
open Go.RowKit

/-- The table of the mixing as it lies in memory. -/
def Table (w : World) : Prop :=
  w.cell? ⟨0, 0, none⟩ = some (.int .u64 30) ∧ w.cell? ⟨0, 1, none⟩ = some (.int .u64 13787848793156543929) ∧
  w.cell? ⟨0, 2, none⟩ = some (.int .u64 27) ∧ w.cell? ⟨0, 3, none⟩ = some (.int .u64 10723151780598845931) ∧
  w.cell? ⟨0, 4, none⟩ = some (.int .u64 31) ∧ w.cell? ⟨0, 5, none⟩ = some (.int .u64 1)

theorem wrap_u64 (n : Int) : IntKind.u64.wrap n = n % 18446744073709551616 := by simp [IntKind.wrap, IntKind.bits, IntKind.signed]
/-- One round of the mixing, in the walk's spelling. -/
theorem mix_int (k p f x : Nat) (P F : Int) (hP : P = (p : Int)) (hF : F = (f : Int)) (hp : p = 2 ^ k) (hx : x < 18446744073709551616) : IntKind.u64.wrap (bits .xor .u64 (x : Int) ((x : Int) / P) * F) = ((Rand.mix k f x : Nat) : Int) := by
  subst hP hF
  have e : ((x : Int) / (p : Int)) = ((x / p : Nat) : Int) := by simp
  rw [e, u64_xor_nat x (x / p) hx (Nat.lt_of_le_of_lt (Nat.div_le_self _ _) hx), wrap_u64]
  unfold Rand.mix Rand.M
  rw [← hp]
  simp
theorem next_int (s : Nat) : IntKind.u64.wrap ((s : Int) + 11400714819323198485) = ((Rand.nextSeed s : Nat) : Int) := by
  rw [wrap_u64]
  unfold Rand.nextSeed Rand.step Rand.M
  simp

set_option maxRecDepth 100000 in
theorem next_any (s : Nat) (w : World) (ht : Table w) :
    Calls Tryd.prog 28 #[.int .u64 (s : Int)] w fun e w' => e = .returned (.tuple #[.int .u64 (Rand.num s : Int), .int .u64 (Rand.nextSeed s : Int)]) ∧ ∃ n, w' = w.drewN n := by
  obtain ⟨t0, t1, t2, t3, t4, t5⟩ := ht
  have E1 := Lib.hid (next_int s)
  have E2 := Lib.hid (mix_int 30 1073741824 13787848793156543929 (Rand.nextSeed s) 1073741824 13787848793156543929 rfl rfl rfl (Rand.nextSeed_lt s))
  have E3 := Lib.hid (mix_int 27 134217728 10723151780598845931 _ 134217728 10723151780598845931 rfl rfl rfl (Rand.mix_lt 30 13787848793156543929 (Rand.nextSeed s)))
  have E4 := Lib.hid (mix_int 31 2147483648 1 _ 2147483648 1 rfl rfl rfl (Rand.mix_lt 27 10723151780598845931 (Rand.mix 30 13787848793156543929 (Rand.nextSeed s))))
  go_enter Tryd.func28, Tryd.ntmps28
  go_wp2
  refine wp_loop_rounds 4 ?_
  rw [rounds_succ]
  go_wp2
  go_quiet (fail)
  go_wp2
  rw [rounds_succ]
  go_wp2
  go_quiet (fail)
  go_wp2
  rw [rounds_succ]
  go_wp2
  go_quiet (fail)
  go_wp2
  rw [rounds_succ]
  go_wp2
  go_ret2
  refine ⟨?_, _, rfl⟩
  have e1 := E1.out
  have e2 := E2.out
  have e3 := E3.out
  have e4 := E4.out
  rw [Int.mul_one] at e4
  simp only [e1, e2, e3, e4]
  rfl
/-- The range of n. -/
def InN (n : Int) : Prop := 1 ≤ n ∧ n ≤ 1000000000
set_option maxRecDepth 100000 in
theorem below_bad (s : Nat) (n : Int) (w : World) (h : n < 1 ∨ 1000000000 < n) :
    Calls Tryd.prog 27 #[.int .u64 (s : Int), .int .i64 n] w fun e w' => e = .returned (.tuple #[.int .i64 0, .int .u64 0, .int .i64 1]) ∧ w = w' := by
  rcases h with h | h
  · go_enter Tryd.func27, Tryd.ntmps27
    go_wp2
    go_ret3
    exact ⟨rfl, rfl⟩
  · have h1 : ¬ n < 1 := by omega
    go_enter Tryd.func27, Tryd.ntmps27
    go_wp2
    go_ret3
    exact ⟨rfl, rfl⟩
set_option maxRecDepth 100000 in
theorem below_ok (s : Nat) (n : Int) (w : World) (ht : Table w) (h1 : 1 ≤ n) (h2 : n ≤ 1000000000) :
    Calls Tryd.prog 27 #[.int .u64 (s : Int), .int .i64 n] w fun e w' => e = .returned (.tuple #[.int .i64 ((Rand.num s : Int) / 4294967296 % n), .int .u64 (Rand.nextSeed s : Int), .int .i64 0]) ∧ ∃ k, w' = w.drewN k := by
  have hb : (Rand.num s : Int) / 4294967296 ≤ 4294967295 := by have := Rand.num_lt s; unfold Rand.M at this; omega
  go_enter Tryd.func27, Tryd.ntmps27
  go_wp2_with (go_at_call 28; refine (next_any s _ ht).mono ?_; rintro e w' ⟨rfl, nq, rfl⟩)
  go_ret3
  exact ⟨rfl, _, rfl⟩
end Go.Proofs.YtfeemiamjmmolaaDoor
