/- Valid queues of package dual: the reference's test. -/
import Derived.Test.YtdecclklenaoaaaDoorEaList
import Derived.Test.YtdecclklenaoaaaDoorDuValid
namespace Go.Proofs.YtdecclklenaoaaaDoor
open Go.RowKit

/-- The lists of a queue are few and short. -/
theorem few_any (kind A B C room : Int) (la : Option Addr) (ln lc : Nat) (v0 v1 v2 v3 v4 v5 v6 v7 : Int) (seed : Int) (w : World) (hL : RdLs w la ln) (hln : (ln : Int) ≤ 9223372036854775807) :
    Calls Tryd.prog 11 #[.agg #[.int .i64 kind, .int .i64 A, .int .i64 B, .int .i64 C, .int .i64 room, .slice la ln lc, .int .i64 v0, .int .i64 v1, .int .i64 v2, .int .i64 v3, .int .i64 v4, .int .i64 v5, .int .i64 v6, .int .i64 v7, .int .u64 seed]] w fun e w' => SaysIff w (ln ≤ 20 ∧ ∀ i ad a n c, i < ln → la = some ad → w.cell? (ad.add i) = some (.slice a n c) → n ≤ 600) e w' := by
  have HL := Lib.hid hL
  clear hL
  go_enter Tryd.func11, Tryd.ntmps11
  go_wp2
  go_loopw [3] (fun i wr => ∃ k : Nat, k ≤ ln ∧ i = .int .i64 k ∧ wr = w.alloc (.cells #[.int .i64 kind, .int .i64 A, .int .i64 B, .int .i64 C, .int .i64 room, .slice la ln lc, .int .i64 v0, .int .i64 v1, .int .i64 v2, .int .i64 v3, .int .i64 v4, .int .i64 v5, .int .i64 v6, .int .i64 v7, .int .u64 seed] 28) ∧ (∀ i ad a n c, i < k → la = some ad → w.cell? (ad.add i) = some (.slice a n c) → n ≤ 600)) (fun i _ => ln - (intOf i).toNat)
  case atStart => exact ⟨0, Nat.zero_le _, rfl, rfl, fun i _ _ _ _ h => absurd h (Nat.not_lt_zero _)⟩
  case round =>
    obtain ⟨k, hk, rfl, rfl, hs⟩ := hrel
    have HS := Lib.hid hs
    clear hs
    by_cases hlt : k < ln
    · obtain ⟨ad, a, n, c, xs, rfl, hc, hr, hn⟩ := HL.out k hlt
      have hlb := World.block_lt_of_cell? _ _ hc
      have hca : ∀ o, (w.alloc o).cell? (ad.add k) = some (.slice a n c) := fun o => below_cell_of (below_new (Below.refl _ _) o) hc
      have HC := Lib.hid hc
      clear hc
      by_cases h6 : 600 < (n : Int)
      · go_wp2
        go_ret
        exact ⟨⟨false, rfl, ⟨(fun h => by cases h), (fun h => by have := h.2 k ad a n c hlt rfl HC.out; omega)⟩⟩, below_new (Below.refl _ _) _⟩
      · have h6' : decide (600 < (n : Int)) = false := decide_eq_false h6
        go_wp2
        go_roundw
        case rel => exact ⟨k + 1, by omega, by go_num, by first | rfl | trivial, fun i ad' a' n' c' hi e hc' => by
          by_cases hik : i = k
          · subst hik
            injection e with e
            subst e
            have := hc'.symm.trans HC.out
            injection this with this
            injection this with _ e2 _
            subst e2
            omega
          · exact HS.out i ad' a' n' c' (by omega) e hc'⟩
        case measure => simp [intOf]; omega
    · obtain rfl : k = ln := by omega
      go_wp2
      go_ret
      exact ⟨⟨_, rfl, ⟨fun h => ⟨by simp at h; omega, HS.out⟩, fun h => by simp; omega⟩⟩, below_new (Below.refl _ _) _⟩
theorem able_any (a : Option Addr) (n c : Nat) (xs : List Ea.Item) (is : Bool) (w : World) (hr : RdQ w a n xs) (hn : (n : Int) ≤ 9223372036854775807) :
    Calls Tryd.prog 40 #[.slice a n c, .bool is] w fun e w' => (∃ b : Bool, e = .returned (.bool b) ∧ (b = true ↔ Du.allAble xs is)) ∧ w' = w := by
  have HR := Lib.hid hr
  have HXL := Lib.hid hr.1
  clear hr
  go_enter Tryd.func40, Tryd.ntmps40
  go_wp2
  go_loopw [5] (fun i wr => ∃ k : Nat, k ≤ n ∧ i = .int .i64 k ∧ wr = w ∧ (∀ j, j < k → (xs.getD j default).p.able = is)) (fun i _ => n - (intOf i).toNat)
  case atStart => exact ⟨0, Nat.zero_le _, rfl, rfl, fun j hj => absurd hj (Nat.not_lt_zero j)⟩
  case round =>
    obtain ⟨k, hk, rfl, rfl, heq⟩ := hrel
    have HEQ := Lib.hid heq
    clear heq
    by_cases hlt : k < n
    · obtain ⟨b, o, rfl, hrk⟩ := HR.out.2 k hlt
      have h6 := hrk 6 (.bool (xs.getD k default).p.able) rfl
      obtain ⟨ab, hab⟩ : ∃ b, (xs.getD k default).p.able = b := ⟨_, rfl⟩
      rw [hab] at h6
      have HAB := Lib.hid hab
      clear hrk hab
      cases hb : (ab == is) with
      | false =>
        have hne : ab ≠ is := by intro h; rw [h] at hb; simp at hb
        have HNE := Lib.hid hne
        clear hne hb
        cases ab <;> cases is <;> first | (exact absurd rfl HNE.out) | skip
        all_goals
          go_wp2
          go_ret
          exact ⟨⟨false, rfl, ⟨(fun h => by cases h), (fun h => absurd (HAB.out.symm.trans (h k (by have := HXL.out; omega))) HNE.out)⟩⟩, rfl⟩
      | true =>
        obtain rfl : ab = is := by simpa using hb
        clear hb
        go_wp2
        go_roundw
        case rel => exact ⟨k + 1, by omega, by go_num, by first | rfl | trivial, fun j hj => by
          by_cases e : j = k
          · subst e
            exact HAB.out
          · exact HEQ.out j (by omega)⟩
        case measure => simp [intOf]; omega
    · obtain rfl : k = n := by omega
      go_wp2
      go_ret
      exact ⟨⟨true, rfl, ⟨fun _ i hi => HEQ.out i (by have := HXL.out; omega), fun _ => rfl⟩⟩, rfl⟩
end Go.Proofs.YtdecclklenaoaaaDoor
