/- Valid and open of package early, at a valid queue. -/
import Derived.Test.YtfeemiamjmmolaaDoorEaIs
namespace Go.Proofs.YtfeemiamjmmolaaDoor
open Go.RowKit

/-- Eight zeros are eight zeros. -/
@[local go_sem] theorem eq8 (w : World) : (Op.equalIn 10000 25 (.agg #[.int .i64 0, .int .i64 0, .int .i64 0, .int .i64 0, .int .i64 0, .int .i64 0, .int .i64 0, .int .i64 0]) (.agg #[.int .i64 0, .int .i64 0, .int .i64 0, .int .i64 0, .int .i64 0, .int .i64 0, .int .i64 0, .int .i64 0])).run Tryd.prog w = .ok true w := by
  kernel_rfl
set_option maxRecDepth 100000 in
set_option maxHeartbeats 4000000 in
theorem valid_yes (A B C room : Int) (ad : Addr) (lc : Nat) (v0 v7 : Int) (seed : Int) (a : Option Addr) (n c : Nat) (xs : List Ea.Item) (w : World) (hc : w.cell? ad = some (.slice a n c)) (hr : RdQ w a n xs) (hn : (n : Int) ≤ 9223372036854775807) (hq : QOk A B C room v0 v7 xs) :
    Calls Tryd.prog 17 #[.agg #[.int .i64 2, .int .i64 A, .int .i64 B, .int .i64 C, .int .i64 room, .slice (some ad) 1 lc, .int .i64 v0, .int .i64 0, .int .i64 0, .int .i64 0, .int .i64 0, .int .i64 0, .int .i64 0, .int .i64 v7, .int .u64 seed]] w fun e w' => e = .returned (.bool true) ∧ Below w.heap.size w w' := by
  have hq0 := hq
  obtain ⟨a0, ab, b1, c0, c1, r0, r1, t0, t1, d0, d1, hlen, hlist⟩ := hq
  have hlt := World.block_lt_of_cell? _ _ hc
  have HR := Lib.hid hr
  have HLI := Lib.hid hlist
  have d2 : (n : Int) ≤ room := by rw [hr.1] at hlen; exact hlen
  clear hr hlist hlen hq0
  have dA : decide (A < 1) = false := decide_eq_false (by omega)
  have dB : decide (B ≤ A) = false := decide_eq_false (by omega)
  have dB' : decide (500 < B) = false := decide_eq_false (by omega)
  go_enter Tryd.func17, Tryd.ntmps17
  go_wp2_with fail
  refine (in_yes C 0 10 _ c0 c1).mono ?_
  rintro e w1 ⟨rfl, rfl⟩
  go_wp2_with fail
  refine (in_yes room 1 500 _ r0 r1).mono ?_
  rintro e w1 ⟨rfl, rfl⟩
  go_wp2_with fail
  refine (in_yes v0 0 512000 _ d0 d1).mono ?_
  rintro e w1 ⟨rfl, rfl⟩
  go_wp2_with fail
  refine (in_yes v7 0 10000000 _ t0 t1).mono ?_
  rintro e w1 ⟨rfl, rfl⟩
  go_wp2_with fail
  refine (isList_yes (w.heap.size + 1 + 1 + 1) room ad lc v7 a n c xs _ (by go_simp) (by go_simp) (by go_simp) (below_cell_of (below_new (below_new (below_new (below_new (Below.refl _ _) _) _) _) _) hc) (HR.out.below (below_new (below_new (below_new (below_new (Below.refl _ _) _) _) _) _)) hn d2 HLI.out).mono ?_
  rintro e w2 ⟨rfl, hb2⟩
  have HB2 := Lib.hid (below_on (below_new (below_new (below_new (below_new (Below.refl w.heap.size w) _) _) _) _) hb2)
  clear hb2
  go_wp2
  go_ret
  exact ⟨rfl, HB2.out⟩

set_option maxRecDepth 100000 in
set_option maxHeartbeats 4000000 in
theorem valid_zero (w : World) : Calls Tryd.prog 17 #[.agg #[.int .i64 0, .int .i64 0, .int .i64 0, .int .i64 0, .int .i64 0, .slice none 0 0, .int .i64 0, .int .i64 0, .int .i64 0, .int .i64 0, .int .i64 0, .int .i64 0, .int .i64 0, .int .i64 0, .int .u64 0]] w fun e w' => e = .returned (.bool false) ∧ Below w.heap.size w w' := by
  go_enter Tryd.func17, Tryd.ntmps17
  go_wp2
  go_ret
  exact ⟨rfl, below_new (below_new (Below.refl _ _) _) _⟩
theorem isPacket_zero (w : World) : Calls Tryd.prog 21 #[.agg #[.int .i64 0, .int .i64 0, .int .i64 0, .int .i64 0, .int .i64 0, .int .i64 0, .bool false, .bool false]] w fun e w' => e = .returned (.bool false) ∧ Below w.heap.size w w' := by
  go_enter Tryd.func21, Tryd.ntmps21
  go_wp2_with (go_at_call 25; refine (in_any _ _ _ _).mono ?_; simp only [show (decide ((0 : Int) ≤ 0 ∧ (0 : Int) ≤ 7)) = true from rfl, show (decide ((0 : Int) ≤ 0 ∧ (0 : Int) ≤ 3)) = true from rfl, show (decide ((0 : Int) ≤ 0 ∧ (0 : Int) ≤ 1000000000)) = true from rfl, show (decide ((1 : Int) ≤ 0 ∧ (0 : Int) ≤ 10000)) = false from rfl]; rintro e w1 ⟨rfl, rfl⟩)
  go_ret
  exact ⟨rfl, below_new (Below.refl _ _) _⟩
end Go.Proofs.YtfeemiamjmmolaaDoor
