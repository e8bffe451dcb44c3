/- The fixed examples of the statements on package random hold. -/
import Derived.Test.YtbafgcmcpaickaaDoorRandRef
namespace Go.Proofs.YtbafgcmcpaickaaDoor
open Go.RowKit

theorem num_0 : ((Rand.num 0 : Nat) : Int) = 16294208416658607535 := by decide +kernel
theorem num_1 : ((Rand.num 1 : Nat) : Int) = 10451216379200822465 := by decide +kernel
theorem seed_0 : ((Rand.nextSeed 0 : Nat) : Int) = 11400714819323198485 := by decide +kernel
theorem seed_1 : ((Rand.nextSeed 1 : Nat) : Int) = 11400714819323198486 := by decide +kernel
theorem below_0 : ((Rand.num 0 : Nat) : Int) / 4294967296 % 10 = 3 := by rw [num_0]; decide +kernel
theorem below_1 : ((Rand.num 1 : Nat) : Int) / 4294967296 % 10 = 6 := by rw [num_1]; decide +kernel

theorem head_next0 (w : World) (ht : Table w) : Calls Tryd.prog 10 #[.int .u64 0] w fun e w' => e = .returned (.tuple #[.int .u64 16294208416658607535, .int .u64 11400714819323198485]) ∧ ∃ n, w' = w.drewN n := by
  have h := next_any 0 w ht
  rw [num_0, seed_0] at h
  exact h
theorem head_next1 (w : World) (ht : Table w) : Calls Tryd.prog 10 #[.int .u64 1] w fun e w' => e = .returned (.tuple #[.int .u64 10451216379200822465, .int .u64 11400714819323198486]) ∧ ∃ n, w' = w.drewN n := by
  have h := next_any 1 w ht
  rw [num_1, seed_1] at h
  exact h
theorem head_below0 (w : World) (ht : Table w) : Calls Tryd.prog 12 #[.int .u64 0, .int .i64 10] w fun e w' => e = .returned (.tuple #[.int .i64 3, .int .u64 11400714819323198485, .int .i64 0]) ∧ ∃ n, w' = w.drewN n := by
  have h := below_ok 0 10 w ht (by omega) (by omega)
  rw [below_0, seed_0] at h
  exact h
theorem head_below1 (w : World) (ht : Table w) : Calls Tryd.prog 12 #[.int .u64 1, .int .i64 10] w fun e w' => e = .returned (.tuple #[.int .i64 6, .int .u64 11400714819323198486, .int .i64 0]) ∧ ∃ n, w' = w.drewN n := by
  have h := below_ok 1 10 w ht (by omega) (by omega)
  rw [below_1, seed_1] at h
  exact h
theorem head_below2 (w : World) : Calls Tryd.prog 12 #[.int .u64 1, .int .i64 0] w fun e w' => e = .returned (.tuple #[.int .i64 0, .int .u64 0, .int .i64 1]) ∧ w = w' := below_bad 1 0 w (.inl (by omega))

set_option maxRecDepth 100000 in
theorem head_ok (w : World) (ht : Table w) : Calls Tryd.prog 9 #[] w fun e w' => e = .returned (.bool true) ∧ ∃ n, w' = w.drewN n := by
  have HT := Lib.hid ht
  clear ht
  go_enter Tryd.func9, Tryd.ntmps9
  go_wp2_with fail
  refine (head_next0 _ (by exact HT.out)).mono ?_
  rintro e w1 ⟨rfl, n1, rfl⟩
  go_wp2_with fail
  refine (head_next1 _ (by exact HT.out)).mono ?_
  rintro e w1 ⟨rfl, n2, rfl⟩
  go_wp2_with fail
  refine (head_below0 _ (by exact HT.out)).mono ?_
  rintro e w1 ⟨rfl, n3, rfl⟩
  go_wp2_with fail
  refine (head_below1 _ (by exact HT.out)).mono ?_
  rintro e w1 ⟨rfl, n4, rfl⟩
  go_wp2_with fail
  refine (head_below2 _).mono ?_
  rintro e w1 ⟨rfl, rfl⟩
  go_wp2
  go_ret
  exact ⟨rfl, _, rfl⟩
end Go.Proofs.YtbafgcmcpaickaaDoor
