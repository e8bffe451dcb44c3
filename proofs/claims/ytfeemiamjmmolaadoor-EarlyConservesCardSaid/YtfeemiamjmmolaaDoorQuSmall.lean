/- The small functions of the references of queues: numbers, times, valid packets. -/
import Derived.Test.YtfeemiamjmmolaaDoorEaMem
import Derived.WalkKit
import Derived.Outline
import Derived.LoopN
import Derived.Deep.QuietTactic
import Derived.BigQuiet
import Derived.WalkSpells
namespace Go.Proofs.YtfeemiamjmmolaaDoor
open Go.RowKit

theorem ok_iff (p : Ea.Pkt) : p.ok ↔ ((0 ≤ p.flow ∧ p.flow ≤ 7) ∧ (0 ≤ p.sub ∧ p.sub ≤ 3) ∧ (0 ≤ p.number ∧ p.number ≤ 1000000000) ∧ (0 ≤ p.data ∧ p.data ≤ 1000000000) ∧ (1 ≤ p.size ∧ p.size ≤ 10000) ∧ 0 ≤ p.sent ∧ p.sent ≤ 10000000) :=
  ⟨fun h => ⟨⟨h.f0, h.f1⟩, ⟨h.s0, h.s1⟩, ⟨h.n0, h.n1⟩, ⟨h.d0, h.d1⟩, ⟨h.z0, h.z1⟩, h.t0, h.t1⟩, fun h => ⟨h.1.1, h.1.2, h.2.1.1, h.2.1.2, h.2.2.1.1, h.2.2.1.2, h.2.2.2.1.1, h.2.2.2.1.2, h.2.2.2.2.1.1, h.2.2.2.2.1.2, h.2.2.2.2.2.1, h.2.2.2.2.2.2⟩⟩
instance (p : Ea.Pkt) : Decidable p.ok := decidable_of_iff _ (ok_iff p).symm
theorem number_any (n : Int) (w : World) : Calls Tryd.prog 19 #[.int .i64 n] w fun e w' => e = .returned (.bool (decide (0 ≤ n ∧ n ≤ 1000000000))) ∧ w' = w := by
  go_enter Tryd.func19, Tryd.ntmps19
  go_wp2
  · go_ret
    have h : 0 ≤ n := by assumption
    refine ⟨ret_bool ?_, rfl⟩
    simp [h]
  · go_ret
    have h : n < 0 := by assumption
    refine ⟨ret_bool ?_, rfl⟩
    simp [Int.not_le.2 h]
theorem time_any (n : Int) (w : World) : Calls Tryd.prog 15 #[.int .i64 n] w fun e w' => e = .returned (.bool (decide (0 ≤ n ∧ n ≤ 10000000))) ∧ w' = w := by
  go_enter Tryd.func15, Tryd.ntmps15
  go_wp2
  · go_ret
    have h : 0 ≤ n := by assumption
    refine ⟨ret_bool ?_, rfl⟩
    simp [h]
  · go_ret
    have h : n < 0 := by assumption
    refine ⟨ret_bool ?_, rfl⟩
    simp [Int.not_le.2 h]
set_option maxRecDepth 100000 in
set_option maxHeartbeats 4000000 in
theorem packet_any (p : Ea.Pkt) (w : World) : Calls Tryd.prog 10 #[pktVal p] w fun e w' => e = .returned (.bool (decide p.ok)) ∧ Below w.heap.size w w' := by
  obtain ⟨flow, sub, number, data, size, sent, able, marked⟩ := p
  obtain ⟨bn, hbn⟩ : ∃ b, decide (0 ≤ number ∧ number ≤ 1000000000) = b := ⟨_, rfl⟩
  obtain ⟨bd, hbd⟩ : ∃ b, decide (0 ≤ data ∧ data ≤ 1000000000) = b := ⟨_, rfl⟩
  obtain ⟨bt, hbt⟩ : ∃ b, decide (0 ≤ sent ∧ sent ≤ 10000000) = b := ⟨_, rfl⟩
  have HN := Lib.hid hbn
  have HD := Lib.hid hbd
  have HT := Lib.hid hbt
  clear hbn hbd hbt
  have fin : ∀ b : Bool, (b = true ↔ ((0 ≤ flow ∧ flow ≤ 7) ∧ (0 ≤ sub ∧ sub ≤ 3) ∧ (0 ≤ number ∧ number ≤ 1000000000) ∧ (0 ≤ data ∧ data ≤ 1000000000) ∧ (1 ≤ size ∧ size ≤ 10000) ∧ 0 ≤ sent ∧ sent ≤ 10000000)) → Ending.returned (.bool b) = Ending.returned (.bool (decide (Ea.Pkt.mk flow sub number data size sent able marked).ok)) := fun b h => ret_bool (by
    rw [Bool.eq_iff_iff, decide_eq_true_iff, ok_iff]
    exact h)
  have FIN := Lib.hid fin
  clear fin
  go_enter Tryd.func10, Tryd.ntmps10
  cases bn <;> cases bd <;> cases bt
  all_goals go_wp2_with (first | (go_at_call 15; refine (time_any sent _).mono ?_; rw [HT.out]; rintro e w1 ⟨rfl, rfl⟩) | (go_at_call 19; refine (number_any _ _).mono ?_; (first | rw [HN.out] | rw [HD.out]); rintro e w1 ⟨rfl, rfl⟩))
  all_goals (go_ret; refine ⟨FIN.out _ ?_, below_new (Below.refl _ _) _⟩; have hn := HN.out; have hd := HD.out; have ht := HT.out; simp only [decide_eq_true_eq, decide_eq_false_iff_not] at hn hd ht; (try simp only [Bool.false_eq_true, false_iff, true_iff]); omega)
end Go.Proofs.YtfeemiamjmmolaaDoor
