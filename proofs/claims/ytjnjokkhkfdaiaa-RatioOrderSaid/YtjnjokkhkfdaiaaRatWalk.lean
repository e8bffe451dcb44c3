/- Package ratio: the greatest common divisor, the range, the lowest terms: what each function returns. -/
import Derived.Test.YtjnjokkhkfdaiaaProg
import Derived.Test.YtjnjokkhkfdaiaaMem
import Derived.Test.YtjnjokkhkfdaiaaRatMath
import Derived.WalkKit
import Derived.Outline
import Derived.LoopN
import Derived.Deep.QuietTactic
import Derived.BigQuiet
import Derived.WalkSpells
import Derived.Lib.Hide
import Derived.Deep.RegionHeld3
import Derived.Deep.RegionWith
namespace Go.Proofs.Ytjnjokkhkfdaiaa
open Go.RowKit

theorem gcd_step {a b : Int} (ha : 0 ≤ a) : Int.gcd b (a % b) = Int.gcd a b := by
  unfold Int.gcd
  rw [Int.natAbs_emod_of_nonneg ha, Nat.gcd_comm, ← Nat.gcd_rec, Nat.gcd_comm]
theorem divisor_any : ∀ (m : Nat) (a b : Int) (w : World), b.toNat ≤ m → 0 ≤ a → a ≤ 9000000000000000000 → 0 ≤ b → b ≤ 9000000000000000000 →
    Calls Try.prog 44 #[.int .i64 a, .int .i64 b] w fun e w' => e = .returned (.int .i64 (Int.gcd a b : Nat)) ∧ w = w' := by
  intro m
  induction m with
  | zero =>
    intro a b w hm ha0 ha1 hb0 hb1
    have hz : b = 0 := by omega
    have hg : (Int.gcd a b : Int) = a := by rw [hz, Int.gcd_zero]; omega
    have HG := Lib.hid hg
    clear hg
    go_enter Try.func44, Try.ntmps44
    go_wp2
    go_ret
    exact ⟨by rw [HG.out]; rfl, rfl⟩
  | succ m ih =>
    intro a b w hm ha0 ha1 hb0 hb1
    by_cases hz : b = 0
    · have hg : (Int.gcd a b : Int) = a := by rw [hz, Int.gcd_zero]; omega
      have HG := Lib.hid hg
      clear hg
      go_enter Try.func44, Try.ntmps44
      go_wp2
      go_ret
      exact ⟨by rw [HG.out]; rfl, rfl⟩
    · have hrm : a.tmod b = a % b := Int.tmod_eq_emod_of_nonneg ha0
      have h0 := Int.emod_nonneg a hz
      have h1 := Int.emod_lt_of_pos a (show 0 < b by omega)
      have hg := gcd_step (b := b) ha0
      have HG := Lib.hid hg
      have HR := Lib.hid hrm
      have H0 := Lib.hid h0
      have H1 := Lib.hid h1
      clear hg hrm h0 h1
      go_enter Try.func44, Try.ntmps44
      go_wp2_with fail
      refine (ih b (a % b) _ (by have := H0.out; have := H1.out; omega) (by omega) (by omega) H0.out (by have := H1.out; omega)).mono ?_
      rintro e w' ⟨rfl, rfl⟩
      rw [HG.out]
      go_wp2
      go_ret
      exact ⟨rfl, rfl⟩
end Go.Proofs.Ytjnjokkhkfdaiaa
