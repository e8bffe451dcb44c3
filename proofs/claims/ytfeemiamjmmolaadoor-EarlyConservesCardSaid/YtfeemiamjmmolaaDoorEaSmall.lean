/- The small functions of package early: numbers in a range, valid packets. -/
import Derived.Test.YtfeemiamjmmolaaDoorQuSmall
namespace Go.Proofs.YtfeemiamjmmolaaDoor
open Go.RowKit

theorem in_yes (n lo hi : Int) (w : World) (h0 : lo ≤ n) (h1 : n ≤ hi) : Calls Tryd.prog 25 #[.int .i64 n, .int .i64 lo, .int .i64 hi] w fun e w' => e = .returned (.bool true) ∧ w' = w := by
  go_enter Tryd.func25, Tryd.ntmps25
  go_wp2
  go_ret
  refine ⟨ret_bool ?_, rfl⟩
  simp
theorem in_any (n lo hi : Int) (w : World) : Calls Tryd.prog 25 #[.int .i64 n, .int .i64 lo, .int .i64 hi] w fun e w' => e = .returned (.bool (decide (lo ≤ n ∧ n ≤ hi))) ∧ w' = w := by
  go_enter Tryd.func25, Tryd.ntmps25
  go_wp2
  · go_ret
    have h : lo ≤ n := by assumption
    refine ⟨ret_bool ?_, rfl⟩
    simp [h]
  · go_ret
    have h : n < lo := by assumption
    refine ⟨ret_bool ?_, rfl⟩
    simp [Int.not_le.2 h]
set_option maxRecDepth 100000 in
theorem isPacket_yes (p : Ea.Pkt) (w : World) (h : p.ok) : Calls Tryd.prog 21 #[pktVal p] w fun e w' => e = .returned (.bool true) ∧ Below w.heap.size w w' := by
  obtain ⟨f0, f1, s0, s1, n0, n1, d0, d1, z0, z1, t0, t1⟩ := h
  obtain ⟨flow, sub, number, data, size, sent, able, marked⟩ := p
  simp only at f0 f1 s0 s1 n0 n1 d0 d1 z0 z1 t0 t1
  go_enter Tryd.func21, Tryd.ntmps21
  go_wp2_with fail
  refine (in_yes flow 0 7 _ f0 f1).mono ?_
  rintro e w1 ⟨rfl, rfl⟩
  go_wp2_with fail
  refine (in_yes sub 0 3 _ s0 s1).mono ?_
  rintro e w1 ⟨rfl, rfl⟩
  go_wp2_with fail
  refine (in_yes number 0 1000000000 _ n0 n1).mono ?_
  rintro e w1 ⟨rfl, rfl⟩
  go_wp2_with fail
  refine (in_yes data 0 1000000000 _ d0 d1).mono ?_
  rintro e w1 ⟨rfl, rfl⟩
  go_wp2_with fail
  refine (in_yes size 1 10000 _ z0 z1).mono ?_
  rintro e w1 ⟨rfl, rfl⟩
  go_wp2_with fail
  refine (in_yes sent 0 10000000 _ t0 t1).mono ?_
  rintro e w1 ⟨rfl, rfl⟩
  go_wp2
  go_ret
  exact ⟨rfl, below_new (Below.refl _ _) _⟩
end Go.Proofs.YtfeemiamjmmolaaDoor
