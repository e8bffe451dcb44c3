/- The small functions of package dual: numbers in a range, times, valid packets. -/
import Derived.Test.YtdecclklenaoaaaDoorQuSmall
import Derived.Test.YtdecclklenaoaaaDoorDuMath
namespace Go.Proofs.YtdecclklenaoaaaDoor
open Go.RowKit

theorem between_any (n lo hi : Int) (w : World) : Calls Tryd.prog 37 #[.int .i64 n, .int .i64 lo, .int .i64 hi] w fun e w' => e = .returned (.bool (decide (lo ≤ n ∧ n ≤ hi))) ∧ w' = w := by
  go_enter Tryd.func37, Tryd.ntmps37
  go_wp2
  · go_ret
    have h : lo ≤ n := by assumption
    refine ⟨ret_bool ?_, rfl⟩
    simp [h]
  · go_ret
    have h : n < lo := by assumption
    refine ⟨ret_bool ?_, rfl⟩
    simp [Int.not_le.2 h]
theorem between_yes (n lo hi : Int) (w : World) (h0 : lo ≤ n) (h1 : n ≤ hi) : Calls Tryd.prog 37 #[.int .i64 n, .int .i64 lo, .int .i64 hi] w fun e w' => e = .returned (.bool true) ∧ w' = w := by
  have := between_any n lo hi w
  rwa [show decide (lo ≤ n ∧ n ≤ hi) = true from decide_eq_true ⟨h0, h1⟩] at this
theorem isTime_any (n : Int) (w : World) : Calls Tryd.prog 38 #[.int .i64 n] w fun e w' => e = .returned (.bool (decide (0 ≤ n ∧ n ≤ 10000000))) ∧ w' = w := by
  obtain ⟨b, hb⟩ : ∃ b, decide (0 ≤ n ∧ n ≤ 10000000) = b := ⟨_, rfl⟩
  rw [hb]
  have HB := Lib.hid hb
  clear hb
  go_enter Tryd.func38, Tryd.ntmps38
  go_wp2_with fail
  refine (between_any n 0 10000000 _).mono ?_
  rw [HB.out]
  rintro e w1 ⟨rfl, rfl⟩
  go_wp2
  go_ret
  exact ⟨rfl, rfl⟩
theorem isTime_yes (n : Int) (w : World) (h0 : 0 ≤ n) (h1 : n ≤ 10000000) : Calls Tryd.prog 38 #[.int .i64 n] w fun e w' => e = .returned (.bool true) ∧ w' = w := by
  have := isTime_any n w
  rwa [show decide (0 ≤ n ∧ n ≤ 10000000) = true from decide_eq_true ⟨h0, h1⟩] at this
set_option maxRecDepth 100000 in
set_option maxHeartbeats 4000000 in
theorem isPacket_any (p : Ea.Pkt) (w : World) : Calls Tryd.prog 29 #[pktVal p] w fun e w' => e = .returned (.bool (decide p.ok)) ∧ Below w.heap.size w w' := by
  obtain ⟨flow, sub, number, data, size, sent, able, marked⟩ := p
  obtain ⟨bf, hbf⟩ : ∃ b, decide (0 ≤ flow ∧ flow ≤ 7) = b := ⟨_, rfl⟩
  obtain ⟨bs, hbs⟩ : ∃ b, decide (0 ≤ sub ∧ sub ≤ 3) = b := ⟨_, rfl⟩
  obtain ⟨bn, hbn⟩ : ∃ b, decide (0 ≤ number ∧ number ≤ 1000000000) = b := ⟨_, rfl⟩
  obtain ⟨bd, hbd⟩ : ∃ b, decide (0 ≤ data ∧ data ≤ 1000000000) = b := ⟨_, rfl⟩
  obtain ⟨bz, hbz⟩ : ∃ b, decide (1 ≤ size ∧ size ≤ 10000) = b := ⟨_, rfl⟩
  obtain ⟨bt, hbt⟩ : ∃ b, decide (0 ≤ sent ∧ sent ≤ 10000000) = b := ⟨_, rfl⟩
  have e : decide (Ea.Pkt.mk flow sub number data size sent able marked).ok = (bf && (bs && (bn && (bd && (bz && bt))))) := by
    rw [← hbf, ← hbs, ← hbn, ← hbd, ← hbz, ← hbt, Bool.eq_iff_iff, decide_eq_true_iff, ok_iff]
    simp only [Bool.and_eq_true, decide_eq_true_eq]
  rw [e]
  have HF := Lib.hid hbf
  have HS := Lib.hid hbs
  have HN := Lib.hid hbn
  have HD := Lib.hid hbd
  have HZ := Lib.hid hbz
  have HT := Lib.hid hbt
  clear hbf hbs hbn hbd hbz hbt e
  go_enter Tryd.func29, Tryd.ntmps29
  go_wp2_with fail
  refine (between_any flow 0 7 _).mono ?_
  rw [HF.out]
  rintro e w1 ⟨rfl, rfl⟩
  cases bf with
  | false => go_wp2; go_ret; exact ⟨rfl, below_new (Below.refl _ _) _⟩
  | true =>
    go_wp2_with fail
    refine (between_any sub 0 3 _).mono ?_
    rw [HS.out]
    rintro e w1 ⟨rfl, rfl⟩
    cases bs with
    | false => go_wp2; go_ret; exact ⟨rfl, below_new (Below.refl _ _) _⟩
    | true =>
      go_wp2_with fail
      refine (between_any number 0 1000000000 _).mono ?_
      rw [HN.out]
      rintro e w1 ⟨rfl, rfl⟩
      cases bn with
      | false => go_wp2; go_ret; exact ⟨rfl, below_new (Below.refl _ _) _⟩
      | true =>
        go_wp2_with fail
        refine (between_any data 0 1000000000 _).mono ?_
        rw [HD.out]
        rintro e w1 ⟨rfl, rfl⟩
        cases bd with
        | false => go_wp2; go_ret; exact ⟨rfl, below_new (Below.refl _ _) _⟩
        | true =>
          go_wp2_with fail
          refine (between_any size 1 10000 _).mono ?_
          rw [HZ.out]
          rintro e w1 ⟨rfl, rfl⟩
          cases bz with
          | false => go_wp2; go_ret; exact ⟨rfl, below_new (Below.refl _ _) _⟩
          | true =>
            go_wp2_with fail
            refine (isTime_any sent _).mono ?_
            rw [HT.out]
            rintro e w1 ⟨rfl, rfl⟩
            go_wp2
            go_ret
            exact ⟨rfl, below_new (Below.refl _ _) _⟩
end Go.Proofs.YtdecclklenaoaaaDoor
