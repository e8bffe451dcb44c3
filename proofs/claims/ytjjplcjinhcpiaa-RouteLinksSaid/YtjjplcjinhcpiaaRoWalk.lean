/- The small functions of package route, whatever their arguments: a number inside a range, the link of a hop. -/
import Derived.Test.YtjjplcjinhcpiaaProg
import Derived.Test.YtjjplcjinhcpiaaRoMath
import Derived.Test.YtjjplcjinhcpiaaSlice
import Derived.Lib.Hide
namespace Go.Proofs.Ytjjplcjinhcpiaa
open Go.RowKit

theorem inside_any (n lo hi : Int) (w : World) : Calls Try.prog 22 #[.int .i64 n, .int .i64 lo, .int .i64 hi] w fun e w' => e = .returned (.bool (Ro.inside n lo hi)) ∧ w' = w := by
  go_enter Try.func22, Try.ntmps22
  go_wp2
  · go_ret
    have h : lo ≤ n := by assumption
    refine ⟨ret_bool ?_, rfl⟩
    unfold Ro.inside
    simp [h]
  · go_ret
    have h : n < lo := by assumption
    refine ⟨ret_bool ?_, rfl⟩
    unfold Ro.inside
    simp [Int.not_le.2 h]
theorem next_any (a : Option Addr) (len cap : Nat) (ls : List Int) (back : Int) (up : Bool) (hop : Int) (w : World) (hl : RdI w .i64 a len ls) (hm : (len : Int) ≤ 9223372036854775807) :
    Calls Try.prog 12 #[.agg #[.slice a len cap, .int .i64 back, .bool up], .int .i64 hop] w fun e w' => e = .returned (.tuple #[.int .i64 (Ro.next ls hop).1, .bool (Ro.next ls hop).2]) ∧ Below w.heap.size w w' := by
  have HL := Lib.hid hl
  clear hl
  have hz : ls.length = len := HL.out.1
  cases hi : Ro.inside hop 0 (len - 1) with
  | true =>
    have HI := Lib.hid hi
    clear hi
    obtain ⟨h0, h1⟩ := (Ro.inside_iff _ _ _).1 HI.out
    obtain ⟨k, rfl⟩ : ∃ k : Nat, hop = k := ⟨hop.toNat, by omega⟩
    have hk : k < len := by omega
    obtain ⟨ad, rfl, hc⟩ := HL.out.2 k hk
    have hca : ∀ o, (w.alloc o).cell? (ad.add k) = some (.int .i64 (ls.getD k 0)) := fun o => below_cell_of (below_new (Below.refl _ _) o) hc
    have HN := Lib.hid (Ro.next_in ls k (by omega))
    clear hz hc
    go_enter Try.func12, Try.ntmps12
    go_wp2_with fail
    refine (inside_any k 0 (len - 1) _).mono ?_
    rw [HI.out]
    rintro e w1 ⟨rfl, rfl⟩
    go_wp2
    exact bodyPost_ret (results_tmp2 rfl _ _ _) rfl ⟨by rw [HN.out]; rfl, below_new (Below.refl _ _) _⟩
  | false =>
    have HI := Lib.hid hi
    have HN : RowKit.Hid (Ro.next ls hop = (0, false)) := Lib.hid (by unfold Ro.next; rw [hz, hi]; rfl)
    clear hi hz
    go_enter Try.func12, Try.ntmps12
    go_wp2_with fail
    refine (inside_any hop 0 (len - 1) _).mono ?_
    rw [HI.out]
    rintro e w1 ⟨rfl, rfl⟩
    go_wp2
    exact bodyPost_ret (results_tmp2 rfl _ _ _) rfl ⟨by rw [HN.out]; rfl, below_new (Below.refl _ _) _⟩
end Go.Proofs.Ytjjplcjinhcpiaa
