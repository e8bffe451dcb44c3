/- update and decide of package early. -/
import Derived.Test.YtfeemiamjmmolaaDoorEaOpened
import Derived.Test.YtfeemiamjmmolaaDoorRandWalk
import Derived.StillTailTactics
namespace Go.Proofs.YtfeemiamjmmolaaDoor
open Go.RowKit

theorem pow_one_le (k : Nat) : (1 : Int) ≤ 2 ^ k := by
  induction k with
  | zero => simp
  | succ k ih => rw [Int.pow_succ]; omega
theorem avg_wrap {v0 C : Int} {n : Nat} (hn : n ≤ 600) (w0 : 0 ≤ v0) (w1 : v0 ≤ 512000) : IntKind.i64.wrap (v0 + (1024 * (n : Int) - v0) / 2 ^ C.toNat) = Ea.avg v0 n (2 ^ C.toNat) := by
  have := Ea.avg_bd (v := v0) (len := n) (pow_one_le C.toNat)
  rw [show v0 + (1024 * (n : Int) - v0) / 2 ^ C.toNat = Ea.avg v0 n (2 ^ C.toNat) from rfl, IntKind.wrap_i64]
  generalize Ea.avg v0 n (2 ^ C.toNat) = z at this ⊢
  omega
set_option maxRecDepth 100000 in
set_option maxHeartbeats 4000000 in
theorem update_any (g g1 : Nat) (A B C room v0 now seed : Int) (a : Option Addr) (n c : Nat) (W : World) (hq : Blk W g (qList A B C room (some ⟨g1, 0, none⟩) 1 1 v0 now seed)) (hl : Blk W g1 [.slice a n c]) (hn : n ≤ 600) (c0 : 0 ≤ C) (c1 : C ≤ 10) (w0 : 0 ≤ v0) (w1 : v0 ≤ 512000) :
    Calls Tryd.prog 22 #[.pointer (some ⟨g, 0, none⟩)] W fun e V => e = .returned (.tuple #[]) ∧ W.grownBy V (some g) ∧ Blk V g (qList A B C room (some ⟨g1, 0, none⟩) 1 1 (Ea.avg v0 n (2 ^ C.toNat)) now seed) := by
  have q3 := hq.cell 3 rfl
  have q5 := hq.cell 5 rfl
  have q6 := hq.cell 6 rfl
  have f6 := hq.frozen ⟨g, 6, none⟩ rfl
  have l0 := hl.cell 0 rfl
  have HQ := Lib.hid hq
  clear hq hl
  go_enter Tryd.func22, Tryd.ntmps22
  go_wp2
  go_quiet (fail)
  have hW := avg_wrap (C := C) hn w0 w1
  obtain ⟨z, hz⟩ : ∃ z, Ea.avg v0 n (2 ^ C.toNat) = z := ⟨_, rfl⟩
  rw [hz] at hW
  have HZ := Lib.hid hz
  clear hz
  go_wp2
  refine wp_region_still_tail 19 (by kernel_rfl) (by kernel_rfl) ?_
  simp only [List.take_succ_cons, List.take_zero, List.drop_succ_cons, List.drop_zero]
  change wpStill _ _ (World.drew _) _ _ _
  repeat still_step
  refine wpStill_nil ?_
  change wpList _ _ _ _ _ (World.drew _)
  go_wp2
  go_end0
  exact ⟨rfl, grown_trans (grown_drewN W _ _) (grown_set _ ⟨g, 6, none⟩ _), by rw [HZ.out]; exact (blk_drewN HQ.out _).set 6 (.int .i64 z)⟩

theorem wrap_in {x : Int} (h0 : -9223372036854775808 ≤ x) (h1 : x ≤ 9223372036854775807) : IntKind.i64.wrap x = x := by rw [IntKind.wrap_i64]; omega
set_option maxRecDepth 100000 in
set_option maxHeartbeats 4000000 in
theorem decide_draw_yes (g g1 : Nat) (A B C room v0 now : Int) (s : Nat) (num : Int) (nxt : Nat) (a : Option Addr) (n c : Nat) (W : World) (ht : Table W) (hq : Blk W g (qList A B C room (some ⟨g1, 0, none⟩) 1 1 v0 now s)) (hl : Blk W g1 [.slice a n c]) (a0 : 1 ≤ A) (ab : A < B) (b1 : B ≤ 500) (w0 : -1000000 ≤ v0) (w1 : v0 ≤ 1000000) (h1 : ¬ (n : Int) = room) (h2 : ¬ v0 - 1024 * A < 0) (h3 : ¬ 1024 * (B - A) ≤ v0 - 1024 * A) (h4 : num < v0 - 1024 * A)
    (hcall : ∀ V, Table V → Calls Tryd.prog 27 #[.int .u64 (s : Int), .int .i64 (1024 * (B - A))] V fun e w' => e = .returned (.tuple #[.int .i64 num, .int .u64 (nxt : Int), .int .i64 0]) ∧ ∃ k, w' = V.drewN k) :
    Calls Tryd.prog 23 #[.pointer (some ⟨g, 0, none⟩)] W fun e V => e = .returned (.int .i64 1) ∧ W.grownBy V (some g) ∧ Blk V g (qList A B C room (some ⟨g1, 0, none⟩) 1 1 v0 now (nxt : Int)) := by
  have q1 := hq.cell 1 rfl
  have q2 := hq.cell 2 rfl
  have q4 := hq.cell 4 rfl
  have q5 := hq.cell 5 rfl
  have q6 := hq.cell 6 rfl
  have q14 := hq.cell 14 rfl
  have f14 := hq.frozen ⟨g, 14, none⟩ rfl
  have l0 := hl.cell 0 rfl
  have h1' : ((n : Int) == room) = false := by simp [h1]
  have hb : decide (num < v0 - 1024 * A) = true := decide_eq_true h4
  have HQ := Lib.hid hq
  have HT := Lib.hid ht
  have HC := Lib.hid hcall
  clear hq hl ht hcall h1
  go_enter Tryd.func23, Tryd.ntmps23
  go_wp2
  go_quiet (fail)
  go_wp2
  go_quiet (fail)
  go_wp2
  go_quiet (fail)
  go_wp2_with fail
  refine (HC.out _ (by exact HT.out)).mono ?_
  rintro e w1 ⟨rfl, k1, rfl⟩
  go_wp2
  go_ret
  exact ⟨rfl, grown_trans (grown_drewN W _ _) (grown_set _ ⟨g, 14, none⟩ _), (blk_drewN HQ.out _).set 14 (.int .u64 nxt)⟩
set_option maxRecDepth 100000 in
set_option maxHeartbeats 4000000 in
theorem decide_draw_no (g g1 : Nat) (A B C room v0 now : Int) (s : Nat) (num : Int) (nxt : Nat) (a : Option Addr) (n c : Nat) (W : World) (ht : Table W) (hq : Blk W g (qList A B C room (some ⟨g1, 0, none⟩) 1 1 v0 now s)) (hl : Blk W g1 [.slice a n c]) (a0 : 1 ≤ A) (ab : A < B) (b1 : B ≤ 500) (w0 : -1000000 ≤ v0) (w1 : v0 ≤ 1000000) (h1 : ¬ (n : Int) = room) (h2 : ¬ v0 - 1024 * A < 0) (h3 : ¬ 1024 * (B - A) ≤ v0 - 1024 * A) (h4 : ¬ num < v0 - 1024 * A)
    (hcall : ∀ V, Table V → Calls Tryd.prog 27 #[.int .u64 (s : Int), .int .i64 (1024 * (B - A))] V fun e w' => e = .returned (.tuple #[.int .i64 num, .int .u64 (nxt : Int), .int .i64 0]) ∧ ∃ k, w' = V.drewN k) :
    Calls Tryd.prog 23 #[.pointer (some ⟨g, 0, none⟩)] W fun e V => e = .returned (.int .i64 0) ∧ W.grownBy V (some g) ∧ Blk V g (qList A B C room (some ⟨g1, 0, none⟩) 1 1 v0 now (nxt : Int)) := by
  have q1 := hq.cell 1 rfl
  have q2 := hq.cell 2 rfl
  have q4 := hq.cell 4 rfl
  have q5 := hq.cell 5 rfl
  have q6 := hq.cell 6 rfl
  have q14 := hq.cell 14 rfl
  have f14 := hq.frozen ⟨g, 14, none⟩ rfl
  have l0 := hl.cell 0 rfl
  have h1' : ((n : Int) == room) = false := by simp [h1]
  have hb : decide (num < v0 - 1024 * A) = false := decide_eq_false h4
  have HQ := Lib.hid hq
  have HT := Lib.hid ht
  have HC := Lib.hid hcall
  clear hq hl ht hcall h1
  go_enter Tryd.func23, Tryd.ntmps23
  go_wp2
  go_quiet (fail)
  go_wp2
  go_quiet (fail)
  go_wp2
  go_quiet (fail)
  go_wp2_with fail
  refine (HC.out _ (by exact HT.out)).mono ?_
  rintro e w1 ⟨rfl, k1, rfl⟩
  go_wp2
  go_ret
  exact ⟨rfl, grown_trans (grown_drewN W _ _) (grown_set _ ⟨g, 14, none⟩ _), (blk_drewN HQ.out _).set 14 (.int .u64 nxt)⟩
/-- What decide says. -/
def DecideSays (W : World) (g g1 : Nat) (A B C room v0 now : Int) (n : Nat) (s : Nat) (e : Ending) (V : World) : Prop :=
  e = .returned (.int .i64 (Ea.verdict A B n room v0 s).1) ∧ W.grownBy V (some g) ∧ Blk V g (qList A B C room (some ⟨g1, 0, none⟩) 1 1 v0 now ((Ea.verdict A B n room v0 s).2 : Int))
set_option maxRecDepth 100000 in
set_option maxHeartbeats 4000000 in
theorem decide_any (g g1 : Nat) (A B C room v0 now : Int) (s : Nat) (a : Option Addr) (n c : Nat) (W : World) (ht : Table W) (hq : Blk W g (qList A B C room (some ⟨g1, 0, none⟩) 1 1 v0 now s)) (hl : Blk W g1 [.slice a n c]) (a0 : 1 ≤ A) (ab : A < B) (b1 : B ≤ 500) (w0 : -1000000 ≤ v0) (w1 : v0 ≤ 1000000) :
    Calls Tryd.prog 23 #[.pointer (some ⟨g, 0, none⟩)] W (DecideSays W g g1 A B C room v0 now n s) := by
  have q1 := hq.cell 1 rfl
  have q2 := hq.cell 2 rfl
  have q4 := hq.cell 4 rfl
  have q5 := hq.cell 5 rfl
  have q6 := hq.cell 6 rfl
  have q14 := hq.cell 14 rfl
  have f14 := hq.frozen ⟨g, 14, none⟩ rfl
  have l0 := hl.cell 0 rfl
  have HQ := Lib.hid hq
  have HT := Lib.hid ht
  have HL := Lib.hid hl
  clear hq hl ht
  by_cases h1 : (n : Int) = room
  · have hv : Ea.verdict A B n room v0 s = (2, s) := by unfold Ea.verdict; rw [if_pos h1]
    have HV := Lib.hid hv
    have h1' : ((n : Int) == room) = true := by simp [h1]
    subst h1
    clear hv
    go_enter Tryd.func23, Tryd.ntmps23
    go_wp2
    go_quiet (fail)
    go_wp2
    go_quiet (fail)
    go_wp2
    go_quiet (fail)
    go_wp2
    go_ret
    unfold DecideSays
    rw [HV.out]
    exact ⟨rfl, ⟨rfl, rfl, rfl, Nat.le_refl _, fun _ _ _ => rfl⟩, HQ.out⟩
  · have h1' : ((n : Int) == room) = false := by simp [h1]
    by_cases h2 : v0 - 1024 * A < 0
    · have hv : Ea.verdict A B n room v0 s = (0, s) := by unfold Ea.verdict; rw [if_neg h1, if_pos h2]
      have HV := Lib.hid hv
      clear hv
      go_enter Tryd.func23, Tryd.ntmps23
      go_wp2
      go_quiet (fail)
      go_wp2
      go_quiet (fail)
      go_wp2
      go_quiet (fail)
      go_wp2
      go_ret
      unfold DecideSays
      rw [HV.out]
      exact ⟨rfl, ⟨rfl, rfl, rfl, Nat.le_refl _, fun _ _ _ => rfl⟩, HQ.out⟩
    · by_cases h3 : 1024 * (B - A) ≤ v0 - 1024 * A
      · have hv : Ea.verdict A B n room v0 s = (1, s) := by unfold Ea.verdict; rw [if_neg h1, if_neg h2, if_pos h3]
        have HV := Lib.hid hv
        clear hv
        go_enter Tryd.func23, Tryd.ntmps23
        go_wp2
        go_quiet (fail)
        go_wp2
        go_quiet (fail)
        go_wp2
        go_quiet (fail)
        go_wp2
        go_ret
        unfold DecideSays
        rw [HV.out]
        exact ⟨rfl, ⟨rfl, rfl, rfl, Nat.le_refl _, fun _ _ _ => rfl⟩, HQ.out⟩
      · have hcall : ∀ V, Table V → Calls Tryd.prog 27 #[.int .u64 (s : Int), .int .i64 (1024 * (B - A))] V fun e w' => e = .returned (.tuple #[.int .i64 ((Rand.num s : Int) / 4294967296 % (1024 * (B - A))), .int .u64 (Rand.nextSeed s : Int), .int .i64 0]) ∧ ∃ k, w' = V.drewN k := fun V hV => below_ok s (1024 * (B - A)) V hV (by omega) (by omega)
        have hv : Ea.verdict A B n room v0 s = (if (Rand.num s : Int) / 4294967296 % (1024 * (B - A)) < v0 - 1024 * A then (1, Rand.nextSeed s) else (0, Rand.nextSeed s)) := by unfold Ea.verdict; rw [if_neg h1, if_neg h2, if_neg h3]
        unfold DecideSays
        rw [hv]
        generalize (Rand.num s : Int) / 4294967296 % (1024 * (B - A)) = num at hcall ⊢
        generalize Rand.nextSeed s = nxt at hcall ⊢
        by_cases h4 : num < v0 - 1024 * A
        · rw [if_pos h4]
          exact decide_draw_yes g g1 A B C room v0 now s num nxt a n c W HT.out HQ.out HL.out a0 ab b1 w0 w1 h1 h2 h3 h4 hcall
        · rw [if_neg h4]
          exact decide_draw_no g g1 A B C room v0 now s num nxt a n c W HT.out HQ.out HL.out a0 ab b1 w0 w1 h1 h2 h3 h4 hcall
end Go.Proofs.YtfeemiamjmmolaaDoor
