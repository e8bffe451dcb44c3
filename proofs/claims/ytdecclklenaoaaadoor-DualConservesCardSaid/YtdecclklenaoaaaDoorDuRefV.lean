/- Valid of the reference of package dual. -/
import Derived.Test.YtdecclklenaoaaaDoorDuRef
namespace Go.Proofs.YtdecclklenaoaaaDoor
open Go.RowKit

set_option maxRecDepth 100000 in
set_option maxHeartbeats 16000000 in
theorem rvalid_two (A B room : Int) (ab ao : Nat) (lc : Nat) (v0 v1 v2 v3 v4 v5 v6 v7 : Int) (seed : Int) (w : World) (a1 : Option Addr) (n1 c1 : Nat) (xs : List Ea.Item) (a2 : Option Addr) (n2 c2 : Nat) (ys : List Ea.Item)
    (hc1 : w.cell? ⟨ab, ao, none⟩ = some (.slice a1 n1 c1)) (hc2 : w.cell? ⟨ab, ao + 1, none⟩ = some (.slice a2 n2 c2)) (hr1 : RdQ w a1 n1 xs) (hr2 : RdQ w a2 n2 ys) (hn1 : (n1 : Int) ≤ 4611686018427387903) (hn2 : (n2 : Int) ≤ 4611686018427387903)
    (p0 : 0 ≤ A) (p1 : A ≤ 1000000) (p2 : 0 ≤ B) (p3 : B ≤ 1000) (p4 : 1 ≤ room) (p5 : room ≤ 500) :
    Calls Tryd.prog 19 #[.agg #[.int .i64 6, .int .i64 A, .int .i64 B, .int .i64 0, .int .i64 room, .slice (some ⟨ab, ao, none⟩) 2 lc, .int .i64 v0, .int .i64 v1, .int .i64 v2, .int .i64 v3, .int .i64 v4, .int .i64 v5, .int .i64 v6, .int .i64 v7, .int .u64 seed]] w fun e V => SaysIff w (DvP room v0 v1 v2 v3 v4 v5 v6 v7 n1 n2 xs ys) e V := by
  have hlt := World.block_lt_of_cell? _ _ hc1
  have hA1' : ∀ o1 o2, ((w.alloc o1).alloc o2).cell? ⟨ab, ao, none⟩ = some (.slice a1 n1 c1) := fun o1 o2 => below_cell_of (below_new (below_new (Below.refl _ _) _) _) hc1
  have hA2' : ∀ o1 o2, ((w.alloc o1).alloc o2).cell? ⟨ab, ao + 1, none⟩ = some (.slice a2 n2 c2) := fun o1 o2 => below_cell_of (below_new (below_new (Below.refl _ _) _) _) hc2
  have HR1 := Lib.hid hr1
  have HR2 := Lib.hid hr2
  have dA : decide (A < 0) = false := decide_eq_false (by omega)
  have dA' : decide (1000000 < A) = false := decide_eq_false (by omega)
  have dB : decide (B < 0) = false := decide_eq_false (by omega)
  have dB' : decide (1000 < B) = false := decide_eq_false (by omega)
  have dR : decide (room < 1) = false := decide_eq_false (by omega)
  have dR' : decide (500 < room) = false := decide_eq_false (by omega)
  clear hr1 hr2
  go_enter Tryd.func19, Tryd.ntmps19
  by_cases h7 : 0 ≤ v7 ∧ v7 ≤ 10000000
  rotate_left
  · go_wp2_with fail
    refine (time_any v7 _).mono ?_
    rw [show decide (0 ≤ v7 ∧ v7 ≤ 10000000) = false from decide_eq_false h7]
    rintro e w1 ⟨rfl, rfl⟩
    go_wp2
    go_ret
    exact ⟨⟨false, rfl, ⟨(fun h => by cases h), (fun h => absurd h.h7 h7)⟩⟩, by repeat (first | exact Below.refl _ _ | refine below_drawnN ?_ _ | refine below_drawn ?_ | refine below_new ?_ _)⟩
  go_wp2_with fail
  refine (time_any v7 _).mono ?_
  rw [show decide (0 ≤ v7 ∧ v7 ≤ 10000000) = true from decide_eq_true h7]
  rintro e w1 ⟨rfl, rfl⟩
  by_cases h00 : v0 < 0
  · have d0 : decide (v0 < 0) = true := decide_eq_true h00
    go_wp2
    go_ret
    exact ⟨⟨false, rfl, ⟨(fun h => by cases h), (fun h => absurd h.h0 (by omega))⟩⟩, by repeat (first | exact Below.refl _ _ | refine below_drawnN ?_ _ | refine below_drawn ?_ | refine below_new ?_ _)⟩
  have d0 : decide (v0 < 0) = false := decide_eq_false h00
  by_cases h01 : 15 < v0
  · have d1 : decide (15 < v0) = true := decide_eq_true h01
    go_wp2
    go_ret
    exact ⟨⟨false, rfl, ⟨(fun h => by cases h), (fun h => absurd h.h0 (by omega))⟩⟩, by repeat (first | exact Below.refl _ _ | refine below_drawnN ?_ _ | refine below_drawn ?_ | refine below_new ?_ _)⟩
  have d1 : decide (15 < v0) = false := decide_eq_false h01
  have h0 : 0 ≤ v0 ∧ v0 ≤ 15 := by omega
  go_wp2
  refine wp_loop_rounds 7 ?_
  rw [rounds_succ]
  by_cases e1 : v1 = 0
  rotate_left
  · go_wp2
    go_ret
    exact ⟨⟨false, rfl, ⟨(fun h => by cases h), (fun h => absurd h.z1 e1)⟩⟩, by repeat (first | exact Below.refl _ _ | refine below_drawnN ?_ _ | refine below_drawn ?_ | refine below_new ?_ _)⟩
  subst e1
  go_wp2
  rw [rounds_succ]
  by_cases e2 : v2 = 0
  rotate_left
  · go_wp2
    go_ret
    exact ⟨⟨false, rfl, ⟨(fun h => by cases h), (fun h => absurd h.z2 e2)⟩⟩, by repeat (first | exact Below.refl _ _ | refine below_drawnN ?_ _ | refine below_drawn ?_ | refine below_new ?_ _)⟩
  subst e2
  go_wp2
  rw [rounds_succ]
  by_cases e3 : v3 = 0
  rotate_left
  · go_wp2
    go_ret
    exact ⟨⟨false, rfl, ⟨(fun h => by cases h), (fun h => absurd h.z3 e3)⟩⟩, by repeat (first | exact Below.refl _ _ | refine below_drawnN ?_ _ | refine below_drawn ?_ | refine below_new ?_ _)⟩
  subst e3
  go_wp2
  rw [rounds_succ]
  by_cases e4 : v4 = 0
  rotate_left
  · go_wp2
    go_ret
    exact ⟨⟨false, rfl, ⟨(fun h => by cases h), (fun h => absurd h.z4 e4)⟩⟩, by repeat (first | exact Below.refl _ _ | refine below_drawnN ?_ _ | refine below_drawn ?_ | refine below_new ?_ _)⟩
  subst e4
  go_wp2
  rw [rounds_succ]
  by_cases e5 : v5 = 0
  rotate_left
  · go_wp2
    go_ret
    exact ⟨⟨false, rfl, ⟨(fun h => by cases h), (fun h => absurd h.z5 e5)⟩⟩, by repeat (first | exact Below.refl _ _ | refine below_drawnN ?_ _ | refine below_drawn ?_ | refine below_new ?_ _)⟩
  subst e5
  go_wp2
  rw [rounds_succ]
  by_cases e6 : v6 = 0
  rotate_left
  · go_wp2
    go_ret
    exact ⟨⟨false, rfl, ⟨(fun h => by cases h), (fun h => absurd h.z6 e6)⟩⟩, by repeat (first | exact Below.refl _ _ | refine below_drawnN ?_ _ | refine below_drawn ?_ | refine below_new ?_ _)⟩
  subst e6
  go_wp2
  rw [rounds_succ]
  go_wp2
  have hW : IntKind.i64.wrap ((n1 : Int) + (n2 : Int)) = (n1 : Int) + (n2 : Int) := by rw [IntKind.wrap_i64]; omega
  by_cases hlen : (n1 : Int) + n2 ≤ room
  rotate_left
  · have dl : decide (room < (n1 : Int) + (n2 : Int)) = true := decide_eq_true (by omega)
    refine wp_region_held_drew (S := (fun V => V.cell? ⟨w.heap.size, 5, none⟩ = some (.slice (some ⟨ab, ao, none⟩) 2 lc) ∧ V.cell? ⟨w.heap.size, 4, none⟩ = some (.int .i64 room) ∧ V.cell? ⟨ab, ao, none⟩ = some (.slice a1 n1 c1) ∧ V.cell? ⟨ab, ao + 1, none⟩ = some (.slice a2 n2 c2))) (by kernel_rfl) ?_ (fun hHeld => ?_)
    · exact ⟨by go_simp, by go_simp, below_cell_of (by repeat (first | exact Below.refl _ _ | refine below_drawnN ?_ _ | refine below_drawn ?_ | refine below_new ?_ _)) hc1, below_cell_of (by repeat (first | exact Below.refl _ _ | refine below_drawnN ?_ _ | refine below_drawn ?_ | refine below_new ?_ _)) hc2⟩
    refine wpAnyH_take (i := 0) (v := ?_) rfl (by kernel_rfl) (by kernel_rfl) (by kernel_rfl) (fun _ _ _ h => h) (Or.inl ⟨by rfl, ?_⟩) hHeld ?_
    rotate_left
    · intro wS hSw; obtain ⟨hS0, hS1, hS2, hS3⟩ := hSw; go_simp; try with_reducible rfl
    try go_simp
    refine wpAnyH_take (i := 1) (v := ?_) rfl (by kernel_rfl) (by kernel_rfl) (by kernel_rfl) (fun _ _ _ h => h) (Or.inl ⟨by rfl, ?_⟩) hHeld ?_
    rotate_left
    · intro wS hSw; obtain ⟨hS0, hS1, hS2, hS3⟩ := hSw; go_simp; try with_reducible rfl
    try go_simp
    refine wpAnyH_take (i := 2) (v := ?_) rfl (by kernel_rfl) (by kernel_rfl) (by kernel_rfl) (fun _ _ _ h => h) (Or.inl ⟨by rfl, ?_⟩) hHeld ?_
    rotate_left
    · intro wS hSw; obtain ⟨hS0, hS1, hS2, hS3⟩ := hSw; go_simp; try with_reducible rfl
    try go_simp
    refine wpAnyH_take (i := 3) (v := ?_) rfl (by kernel_rfl) (by kernel_rfl) (by kernel_rfl) (fun _ _ _ h => h) (Or.inl ⟨by rfl, ?_⟩) hHeld ?_
    rotate_left
    · intro wS hSw; obtain ⟨hS0, hS1, hS2, hS3⟩ := hSw; go_simp; try with_reducible rfl
    try go_simp
    refine wpAnyH_take (i := 4) (v := ?_) rfl (by kernel_rfl) (by kernel_rfl) (by kernel_rfl) (fun _ _ _ h => h) (Or.inl ⟨by rfl, ?_⟩) hHeld ?_
    rotate_left
    · intro wS hSw; obtain ⟨hS0, hS1, hS2, hS3⟩ := hSw; go_simp; try with_reducible rfl
    try go_simp
    refine wpAnyH_take (i := 5) (v := ?_) rfl (by kernel_rfl) (by kernel_rfl) (by kernel_rfl) (fun _ _ _ h => h) (Or.inl ⟨by rfl, ?_⟩) hHeld ?_
    rotate_left
    · intro wS hSw; obtain ⟨hS0, hS1, hS2, hS3⟩ := hSw; go_simp; try with_reducible rfl
    try go_simp
    refine wpAnyH_take (i := 6) (v := ?_) rfl (by kernel_rfl) (by kernel_rfl) (by kernel_rfl) (fun _ _ _ h => h) (Or.inl ⟨by rfl, ?_⟩) hHeld ?_
    rotate_left
    · intro wS hSw; obtain ⟨hS0, hS1, hS2, hS3⟩ := hSw; go_simp; try with_reducible rfl
    try go_simp
    refine wpAnyH_take (i := 7) (v := ?_) rfl (by kernel_rfl) (by kernel_rfl) (by kernel_rfl) (fun _ _ _ h => h) (Or.inl ⟨by rfl, ?_⟩) hHeld ?_
    rotate_left
    · intro wS hSw; obtain ⟨hS0, hS1, hS2, hS3⟩ := hSw; go_simp; try with_reducible rfl
    try go_simp
    refine wpAnyH_take (i := 8) (v := ?_) rfl (by kernel_rfl) (by kernel_rfl) (by kernel_rfl) (fun _ _ _ h => h) (Or.inl ⟨by rfl, ?_⟩) hHeld ?_
    rotate_left
    · intro wS hSw; obtain ⟨hS0, hS1, hS2, hS3⟩ := hSw; go_simp; try with_reducible rfl
    try go_simp
    refine wpAnyH_take (i := 9) (v := ?_) rfl (by kernel_rfl) (by kernel_rfl) (by kernel_rfl) (fun _ _ _ h => h) (Or.inl ⟨by rfl, ?_⟩) hHeld ?_
    rotate_left
    · intro wS hSw; obtain ⟨hS0, hS1, hS2, hS3⟩ := hSw; go_simp; try with_reducible rfl
    try go_simp
    refine wpAnyH_take (i := 10) (v := ?_) rfl (by kernel_rfl) (by kernel_rfl) (by kernel_rfl) (fun _ _ _ h => h) (Or.inl ⟨by rfl, ?_⟩) hHeld ?_
    rotate_left
    · intro wS hSw; obtain ⟨hS0, hS1, hS2, hS3⟩ := hSw; go_simp; try with_reducible rfl
    try go_simp
    refine wpAnyH_take (i := 11) (v := ?_) rfl (by kernel_rfl) (by kernel_rfl) (by kernel_rfl) (fun _ _ _ h => h) (Or.inl ⟨by rfl, ?_⟩) hHeld ?_
    rotate_left
    · intro wS hSw; obtain ⟨hS0, hS1, hS2, hS3⟩ := hSw; go_simp; try with_reducible rfl
    try go_simp
    refine wpAnyH_take (i := 12) (v := ?_) rfl (by kernel_rfl) (by kernel_rfl) (by kernel_rfl) (fun _ _ _ h => h) (Or.inl ⟨by rfl, ?_⟩) hHeld ?_
    rotate_left
    · intro wS hSw; obtain ⟨hS0, hS1, hS2, hS3⟩ := hSw; go_simp; try with_reducible rfl
    try go_simp
    refine wpAnyH_take (i := 13) (v := ?_) rfl (by kernel_rfl) (by kernel_rfl) (by kernel_rfl) (fun _ _ _ h => h) (Or.inl ⟨by rfl, ?_⟩) hHeld ?_
    rotate_left
    · intro wS hSw; obtain ⟨hS0, hS1, hS2, hS3⟩ := hSw; go_simp; try with_reducible rfl
    try go_simp
    refine wpAnyH_take (i := 14) (v := ?_) rfl (by kernel_rfl) (by kernel_rfl) (by kernel_rfl) (fun _ _ _ h => h) (Or.inl ⟨by rfl, ?_⟩) hHeld ?_
    rotate_left
    · intro wS hSw; obtain ⟨hS0, hS1, hS2, hS3⟩ := hSw; go_simp; try with_reducible rfl
    try go_simp
    refine wpAnyH_take (i := 15) (v := undef) rfl (by kernel_rfl) (by kernel_rfl) (by kernel_rfl) (fun _ _ _ h => h) (Or.inr ⟨by rfl, rfl⟩) hHeld ?_
    try go_simp
    refine wpAnyH_take (i := 16) (v := undef) rfl (by kernel_rfl) (by kernel_rfl) (by kernel_rfl) (fun _ _ _ h => h) (Or.inr ⟨by rfl, rfl⟩) hHeld ?_
    try go_simp
    refine wpAnyH_take (i := 17) (v := undef) rfl (by kernel_rfl) (by kernel_rfl) (by kernel_rfl) (fun _ _ _ h => h) (Or.inr ⟨by rfl, rfl⟩) hHeld ?_
    try go_simp
    refine wpAnyH_take (i := 18) (v := undef) rfl (by kernel_rfl) (by kernel_rfl) (by kernel_rfl) (fun _ _ _ h => h) (Or.inr ⟨by rfl, rfl⟩) hHeld ?_
    try go_simp
    refine wpAnyH_take (i := 19) (v := undef) rfl (by kernel_rfl) (by kernel_rfl) (by kernel_rfl) (fun _ _ _ h => h) (Or.inr ⟨by rfl, rfl⟩) hHeld ?_
    try go_simp
    refine wpAnyH_take (i := 20) (v := undef) rfl (by kernel_rfl) (by kernel_rfl) (by kernel_rfl) (fun _ _ _ h => h) (Or.inr ⟨by rfl, rfl⟩) hHeld ?_
    try go_simp
    refine wpAnyH_take (i := 21) (v := ?_) rfl (by kernel_rfl) (by kernel_rfl) (by kernel_rfl) (fun _ _ _ h => h) (Or.inl ⟨by rfl, ?_⟩) hHeld ?_
    rotate_left
    · intro wS hSw; obtain ⟨hS0, hS1, hS2, hS3⟩ := hSw; go_simp; try with_reducible rfl
    try go_simp
    refine wpAnyH_take (i := 22) (v := ?_) rfl (by kernel_rfl) (by kernel_rfl) (by kernel_rfl) (fun _ _ _ h => h) (Or.inl ⟨by rfl, ?_⟩) hHeld ?_
    rotate_left
    · intro wS hSw; obtain ⟨hS0, hS1, hS2, hS3⟩ := hSw; go_simp; try with_reducible rfl
    try go_simp
    refine wpAnyH_take (i := 23) (v := undef) rfl (by kernel_rfl) (by kernel_rfl) (by kernel_rfl) (fun _ _ _ h => h) (Or.inr ⟨by rfl, rfl⟩) hHeld ?_
    try go_simp
    refine wpAnyH_take (i := 24) (v := undef) rfl (by kernel_rfl) (by kernel_rfl) (by kernel_rfl) (fun _ _ _ h => h) (Or.inr ⟨by rfl, rfl⟩) hHeld ?_
    try go_simp
    refine wpAnyH_take (i := 25) (v := undef) rfl (by kernel_rfl) (by kernel_rfl) (by kernel_rfl) (fun _ _ _ h => h) (Or.inr ⟨by rfl, rfl⟩) hHeld ?_
    try go_simp
    refine wpAnyH_take (i := 26) (v := undef) rfl (by kernel_rfl) (by kernel_rfl) (by kernel_rfl) (fun _ _ _ h => h) (Or.inr ⟨by rfl, rfl⟩) hHeld ?_
    try go_simp
    refine wpAnyH_take (i := 27) (v := undef) rfl (by kernel_rfl) (by kernel_rfl) (by kernel_rfl) (fun _ _ _ h => h) (Or.inr ⟨by rfl, rfl⟩) hHeld ?_
    try go_simp
    refine wpAnyH_take (i := 28) (v := undef) rfl (by kernel_rfl) (by kernel_rfl) (by kernel_rfl) (fun _ _ _ h => h) (Or.inr ⟨by rfl, rfl⟩) hHeld ?_
    try go_simp
    refine wpAnyH_take (i := 29) (v := ?_) rfl (by kernel_rfl) (by kernel_rfl) (by kernel_rfl) (fun _ _ _ h => h) (Or.inl ⟨by rfl, ?_⟩) hHeld ?_
    rotate_left
    · intro wS hSw; obtain ⟨hS0, hS1, hS2, hS3⟩ := hSw; go_simp; try with_reducible rfl
    try go_simp
    refine wpAnyH_done (by kernel_rfl) ?_ _
    go_wp2
    go_ret
    exact ⟨⟨false, rfl, ⟨(fun h => by cases h), (fun h => absurd h.len (by omega))⟩⟩, by repeat (first | exact Below.refl _ _ | refine below_drawnN ?_ _ | refine below_drawn ?_ | refine below_new ?_ _)⟩
  have dl : decide (room < (n1 : Int) + (n2 : Int)) = false := decide_eq_false (by omega)
  by_cases hA1 : Du.allAble xs true
  rotate_left
  · have HA1 := Lib.hid hA1
    clear hA1
    refine wp_region_held_drew (S := (fun V => V.cell? ⟨w.heap.size, 5, none⟩ = some (.slice (some ⟨ab, ao, none⟩) 2 lc) ∧ V.cell? ⟨w.heap.size, 4, none⟩ = some (.int .i64 room) ∧ V.cell? ⟨ab, ao, none⟩ = some (.slice a1 n1 c1) ∧ V.cell? ⟨ab, ao + 1, none⟩ = some (.slice a2 n2 c2))) (by kernel_rfl) ?_ (fun hHeld => ?_)
    · exact ⟨by go_simp, by go_simp, below_cell_of (by repeat (first | exact Below.refl _ _ | refine below_drawnN ?_ _ | refine below_drawn ?_ | refine below_new ?_ _)) hc1, below_cell_of (by repeat (first | exact Below.refl _ _ | refine below_drawnN ?_ _ | refine below_drawn ?_ | refine below_new ?_ _)) hc2⟩
    refine wpAnyH_take (i := 0) (v := ?_) rfl (by kernel_rfl) (by kernel_rfl) (by kernel_rfl) (fun _ _ _ h => h) (Or.inl ⟨by rfl, ?_⟩) hHeld ?_
    rotate_left
    · intro wS hSw; obtain ⟨hS0, hS1, hS2, hS3⟩ := hSw; go_simp; try with_reducible rfl
    try go_simp
    refine wpAnyH_take (i := 1) (v := ?_) rfl (by kernel_rfl) (by kernel_rfl) (by kernel_rfl) (fun _ _ _ h => h) (Or.inl ⟨by rfl, ?_⟩) hHeld ?_
    rotate_left
    · intro wS hSw; obtain ⟨hS0, hS1, hS2, hS3⟩ := hSw; go_simp; try with_reducible rfl
    try go_simp
    refine wpAnyH_take (i := 2) (v := ?_) rfl (by kernel_rfl) (by kernel_rfl) (by kernel_rfl) (fun _ _ _ h => h) (Or.inl ⟨by rfl, ?_⟩) hHeld ?_
    rotate_left
    · intro wS hSw; obtain ⟨hS0, hS1, hS2, hS3⟩ := hSw; go_simp; try with_reducible rfl
    try go_simp
    refine wpAnyH_take (i := 3) (v := ?_) rfl (by kernel_rfl) (by kernel_rfl) (by kernel_rfl) (fun _ _ _ h => h) (Or.inl ⟨by rfl, ?_⟩) hHeld ?_
    rotate_left
    · intro wS hSw; obtain ⟨hS0, hS1, hS2, hS3⟩ := hSw; go_simp; try with_reducible rfl
    try go_simp
    refine wpAnyH_take (i := 4) (v := ?_) rfl (by kernel_rfl) (by kernel_rfl) (by kernel_rfl) (fun _ _ _ h => h) (Or.inl ⟨by rfl, ?_⟩) hHeld ?_
    rotate_left
    · intro wS hSw; obtain ⟨hS0, hS1, hS2, hS3⟩ := hSw; go_simp; try with_reducible rfl
    try go_simp
    refine wpAnyH_take (i := 5) (v := ?_) rfl (by kernel_rfl) (by kernel_rfl) (by kernel_rfl) (fun _ _ _ h => h) (Or.inl ⟨by rfl, ?_⟩) hHeld ?_
    rotate_left
    · intro wS hSw; obtain ⟨hS0, hS1, hS2, hS3⟩ := hSw; go_simp; try with_reducible rfl
    try go_simp
    refine wpAnyH_take (i := 6) (v := ?_) rfl (by kernel_rfl) (by kernel_rfl) (by kernel_rfl) (fun _ _ _ h => h) (Or.inl ⟨by rfl, ?_⟩) hHeld ?_
    rotate_left
    · intro wS hSw; obtain ⟨hS0, hS1, hS2, hS3⟩ := hSw; go_simp; try with_reducible rfl
    try go_simp
    refine wpAnyH_take (i := 7) (v := ?_) rfl (by kernel_rfl) (by kernel_rfl) (by kernel_rfl) (fun _ _ _ h => h) (Or.inl ⟨by rfl, ?_⟩) hHeld ?_
    rotate_left
    · intro wS hSw; obtain ⟨hS0, hS1, hS2, hS3⟩ := hSw; go_simp; try with_reducible rfl
    try go_simp
    refine wpAnyH_take (i := 8) (v := ?_) rfl (by kernel_rfl) (by kernel_rfl) (by kernel_rfl) (fun _ _ _ h => h) (Or.inl ⟨by rfl, ?_⟩) hHeld ?_
    rotate_left
    · intro wS hSw; obtain ⟨hS0, hS1, hS2, hS3⟩ := hSw; go_simp; try with_reducible rfl
    try go_simp
    refine wpAnyH_take (i := 9) (v := ?_) rfl (by kernel_rfl) (by kernel_rfl) (by kernel_rfl) (fun _ _ _ h => h) (Or.inl ⟨by rfl, ?_⟩) hHeld ?_
    rotate_left
    · intro wS hSw; obtain ⟨hS0, hS1, hS2, hS3⟩ := hSw; go_simp; try with_reducible rfl
    try go_simp
    refine wpAnyH_take (i := 10) (v := ?_) rfl (by kernel_rfl) (by kernel_rfl) (by kernel_rfl) (fun _ _ _ h => h) (Or.inl ⟨by rfl, ?_⟩) hHeld ?_
    rotate_left
    · intro wS hSw; obtain ⟨hS0, hS1, hS2, hS3⟩ := hSw; go_simp; try with_reducible rfl
    try go_simp
    refine wpAnyH_take (i := 11) (v := ?_) rfl (by kernel_rfl) (by kernel_rfl) (by kernel_rfl) (fun _ _ _ h => h) (Or.inl ⟨by rfl, ?_⟩) hHeld ?_
    rotate_left
    · intro wS hSw; obtain ⟨hS0, hS1, hS2, hS3⟩ := hSw; go_simp; try with_reducible rfl
    try go_simp
    refine wpAnyH_take (i := 12) (v := ?_) rfl (by kernel_rfl) (by kernel_rfl) (by kernel_rfl) (fun _ _ _ h => h) (Or.inl ⟨by rfl, ?_⟩) hHeld ?_
    rotate_left
    · intro wS hSw; obtain ⟨hS0, hS1, hS2, hS3⟩ := hSw; go_simp; try with_reducible rfl
    try go_simp
    refine wpAnyH_take (i := 13) (v := ?_) rfl (by kernel_rfl) (by kernel_rfl) (by kernel_rfl) (fun _ _ _ h => h) (Or.inl ⟨by rfl, ?_⟩) hHeld ?_
    rotate_left
    · intro wS hSw; obtain ⟨hS0, hS1, hS2, hS3⟩ := hSw; go_simp; try with_reducible rfl
    try go_simp
    refine wpAnyH_take (i := 14) (v := ?_) rfl (by kernel_rfl) (by kernel_rfl) (by kernel_rfl) (fun _ _ _ h => h) (Or.inl ⟨by rfl, ?_⟩) hHeld ?_
    rotate_left
    · intro wS hSw; obtain ⟨hS0, hS1, hS2, hS3⟩ := hSw; go_simp; try with_reducible rfl
    try go_simp
    refine wpAnyH_take (i := 15) (v := ?_) rfl (by kernel_rfl) (by kernel_rfl) (by kernel_rfl) (fun _ _ _ h => h) (Or.inl ⟨by rfl, ?_⟩) hHeld ?_
    rotate_left
    · intro wS hSw; obtain ⟨hS0, hS1, hS2, hS3⟩ := hSw; go_simp; try with_reducible rfl
    try go_simp
    refine wpAnyH_take (i := 16) (v := ?_) rfl (by kernel_rfl) (by kernel_rfl) (by kernel_rfl) (fun _ _ _ h => h) (Or.inl ⟨by rfl, ?_⟩) hHeld ?_
    rotate_left
    · intro wS hSw; obtain ⟨hS0, hS1, hS2, hS3⟩ := hSw; go_simp; try with_reducible rfl
    try go_simp
    refine wpAnyH_take (i := 17) (v := ?_) rfl (by kernel_rfl) (by kernel_rfl) (by kernel_rfl) (fun _ _ _ h => h) (Or.inl ⟨by rfl, ?_⟩) hHeld ?_
    rotate_left
    · intro wS hSw; obtain ⟨hS0, hS1, hS2, hS3⟩ := hSw; go_simp; try with_reducible rfl
    try go_simp
    refine wpAnyH_take (i := 18) (v := ?_) rfl (by kernel_rfl) (by kernel_rfl) (by kernel_rfl) (fun _ _ _ h => h) (Or.inl ⟨by rfl, ?_⟩) hHeld ?_
    rotate_left
    · intro wS hSw; obtain ⟨hS0, hS1, hS2, hS3⟩ := hSw; go_simp; try with_reducible rfl
    try go_simp
    refine wpAnyH_ready (rs := [19]) (by kernel_rfl) (by simp) ?_
    refine AllReadyH.cons rfl (fun K hK => ?_) AllReadyH.nil
    go_simp
    refine (able_any a1 n1 c1 xs true _ (HR1.out.below (by repeat (first | exact Below.refl _ _ | refine below_drawnN ?_ _ | refine below_drawn ?_ | refine below_new ?_ _))) (by omega)).mono ?_
    rintro e w5 ⟨⟨b1, rfl, hb1⟩, rfl⟩
    obtain rfl : b1 = false := by cases b1 with | false => rfl | true => exact absurd (hb1.1 rfl) HA1.out
    clear hb1
    refine hK.out _ _ ?_ (fun hHeld => ?_)
    · exact hHeld
    clear hK K
    try go_simp
    refine wpAnyH_take (i := 20) (v := ?_) rfl (by kernel_rfl) (by kernel_rfl) (by kernel_rfl) (fun _ _ _ h => h) (Or.inl ⟨by rfl, ?_⟩) hHeld ?_
    rotate_left
    · intro wS hSw; obtain ⟨hS0, hS1, hS2, hS3⟩ := hSw; go_simp; try with_reducible rfl
    try go_simp
    refine wpAnyH_take (i := 21) (v := ?_) rfl (by kernel_rfl) (by kernel_rfl) (by kernel_rfl) (fun _ _ _ h => h) (Or.inl ⟨by rfl, ?_⟩) hHeld ?_
    rotate_left
    · intro wS hSw; obtain ⟨hS0, hS1, hS2, hS3⟩ := hSw; go_simp; try with_reducible rfl
    try go_simp
    refine wpAnyH_take (i := 22) (v := ?_) rfl (by kernel_rfl) (by kernel_rfl) (by kernel_rfl) (fun _ _ _ h => h) (Or.inl ⟨by rfl, ?_⟩) hHeld ?_
    rotate_left
    · intro wS hSw; obtain ⟨hS0, hS1, hS2, hS3⟩ := hSw; go_simp; try with_reducible rfl
    try go_simp
    refine wpAnyH_take (i := 23) (v := undef) rfl (by kernel_rfl) (by kernel_rfl) (by kernel_rfl) (fun _ _ _ h => h) (Or.inr ⟨by rfl, rfl⟩) hHeld ?_
    try go_simp
    refine wpAnyH_take (i := 24) (v := undef) rfl (by kernel_rfl) (by kernel_rfl) (by kernel_rfl) (fun _ _ _ h => h) (Or.inr ⟨by rfl, rfl⟩) hHeld ?_
    try go_simp
    refine wpAnyH_take (i := 25) (v := undef) rfl (by kernel_rfl) (by kernel_rfl) (by kernel_rfl) (fun _ _ _ h => h) (Or.inr ⟨by rfl, rfl⟩) hHeld ?_
    try go_simp
    refine wpAnyH_take (i := 26) (v := undef) rfl (by kernel_rfl) (by kernel_rfl) (by kernel_rfl) (fun _ _ _ h => h) (Or.inr ⟨by rfl, rfl⟩) hHeld ?_
    try go_simp
    refine wpAnyH_take (i := 27) (v := undef) rfl (by kernel_rfl) (by kernel_rfl) (by kernel_rfl) (fun _ _ _ h => h) (Or.inr ⟨by rfl, rfl⟩) hHeld ?_
    try go_simp
    refine wpAnyH_take (i := 28) (v := undef) rfl (by kernel_rfl) (by kernel_rfl) (by kernel_rfl) (fun _ _ _ h => h) (Or.inr ⟨by rfl, rfl⟩) hHeld ?_
    try go_simp
    refine wpAnyH_take (i := 29) (v := ?_) rfl (by kernel_rfl) (by kernel_rfl) (by kernel_rfl) (fun _ _ _ h => h) (Or.inl ⟨by rfl, ?_⟩) hHeld ?_
    rotate_left
    · intro wS hSw; obtain ⟨hS0, hS1, hS2, hS3⟩ := hSw; go_simp; try with_reducible rfl
    try go_simp
    refine wpAnyH_done (by kernel_rfl) ?_ _
    go_wp2
    go_ret
    exact ⟨⟨false, rfl, ⟨(fun h => by cases h), (fun h => absurd h.l1 (fun g => HA1.out ((listD_iff h7.2).1 g).2))⟩⟩, by repeat (first | exact Below.refl _ _ | refine below_drawnN ?_ _ | refine below_drawn ?_ | refine below_new ?_ _)⟩
  have HA1 := Lib.hid hA1
  clear hA1
  by_cases hA2 : Du.allAble ys false
  rotate_left
  · have HA2 := Lib.hid hA2
    clear hA2
    refine wp_region_held_drew (S := (fun V => V.cell? ⟨w.heap.size, 5, none⟩ = some (.slice (some ⟨ab, ao, none⟩) 2 lc) ∧ V.cell? ⟨w.heap.size, 4, none⟩ = some (.int .i64 room) ∧ V.cell? ⟨ab, ao, none⟩ = some (.slice a1 n1 c1) ∧ V.cell? ⟨ab, ao + 1, none⟩ = some (.slice a2 n2 c2))) (by kernel_rfl) ?_ (fun hHeld => ?_)
    · exact ⟨by go_simp, by go_simp, below_cell_of (by repeat (first | exact Below.refl _ _ | refine below_drawnN ?_ _ | refine below_drawn ?_ | refine below_new ?_ _)) hc1, below_cell_of (by repeat (first | exact Below.refl _ _ | refine below_drawnN ?_ _ | refine below_drawn ?_ | refine below_new ?_ _)) hc2⟩
    refine wpAnyH_take (i := 0) (v := ?_) rfl (by kernel_rfl) (by kernel_rfl) (by kernel_rfl) (fun _ _ _ h => h) (Or.inl ⟨by rfl, ?_⟩) hHeld ?_
    rotate_left
    · intro wS hSw; obtain ⟨hS0, hS1, hS2, hS3⟩ := hSw; go_simp; try with_reducible rfl
    try go_simp
    refine wpAnyH_take (i := 1) (v := ?_) rfl (by kernel_rfl) (by kernel_rfl) (by kernel_rfl) (fun _ _ _ h => h) (Or.inl ⟨by rfl, ?_⟩) hHeld ?_
    rotate_left
    · intro wS hSw; obtain ⟨hS0, hS1, hS2, hS3⟩ := hSw; go_simp; try with_reducible rfl
    try go_simp
    refine wpAnyH_take (i := 2) (v := ?_) rfl (by kernel_rfl) (by kernel_rfl) (by kernel_rfl) (fun _ _ _ h => h) (Or.inl ⟨by rfl, ?_⟩) hHeld ?_
    rotate_left
    · intro wS hSw; obtain ⟨hS0, hS1, hS2, hS3⟩ := hSw; go_simp; try with_reducible rfl
    try go_simp
    refine wpAnyH_take (i := 3) (v := ?_) rfl (by kernel_rfl) (by kernel_rfl) (by kernel_rfl) (fun _ _ _ h => h) (Or.inl ⟨by rfl, ?_⟩) hHeld ?_
    rotate_left
    · intro wS hSw; obtain ⟨hS0, hS1, hS2, hS3⟩ := hSw; go_simp; try with_reducible rfl
    try go_simp
    refine wpAnyH_take (i := 4) (v := ?_) rfl (by kernel_rfl) (by kernel_rfl) (by kernel_rfl) (fun _ _ _ h => h) (Or.inl ⟨by rfl, ?_⟩) hHeld ?_
    rotate_left
    · intro wS hSw; obtain ⟨hS0, hS1, hS2, hS3⟩ := hSw; go_simp; try with_reducible rfl
    try go_simp
    refine wpAnyH_take (i := 5) (v := ?_) rfl (by kernel_rfl) (by kernel_rfl) (by kernel_rfl) (fun _ _ _ h => h) (Or.inl ⟨by rfl, ?_⟩) hHeld ?_
    rotate_left
    · intro wS hSw; obtain ⟨hS0, hS1, hS2, hS3⟩ := hSw; go_simp; try with_reducible rfl
    try go_simp
    refine wpAnyH_take (i := 6) (v := ?_) rfl (by kernel_rfl) (by kernel_rfl) (by kernel_rfl) (fun _ _ _ h => h) (Or.inl ⟨by rfl, ?_⟩) hHeld ?_
    rotate_left
    · intro wS hSw; obtain ⟨hS0, hS1, hS2, hS3⟩ := hSw; go_simp; try with_reducible rfl
    try go_simp
    refine wpAnyH_take (i := 7) (v := ?_) rfl (by kernel_rfl) (by kernel_rfl) (by kernel_rfl) (fun _ _ _ h => h) (Or.inl ⟨by rfl, ?_⟩) hHeld ?_
    rotate_left
    · intro wS hSw; obtain ⟨hS0, hS1, hS2, hS3⟩ := hSw; go_simp; try with_reducible rfl
    try go_simp
    refine wpAnyH_take (i := 8) (v := ?_) rfl (by kernel_rfl) (by kernel_rfl) (by kernel_rfl) (fun _ _ _ h => h) (Or.inl ⟨by rfl, ?_⟩) hHeld ?_
    rotate_left
    · intro wS hSw; obtain ⟨hS0, hS1, hS2, hS3⟩ := hSw; go_simp; try with_reducible rfl
    try go_simp
    refine wpAnyH_take (i := 9) (v := ?_) rfl (by kernel_rfl) (by kernel_rfl) (by kernel_rfl) (fun _ _ _ h => h) (Or.inl ⟨by rfl, ?_⟩) hHeld ?_
    rotate_left
    · intro wS hSw; obtain ⟨hS0, hS1, hS2, hS3⟩ := hSw; go_simp; try with_reducible rfl
    try go_simp
    refine wpAnyH_take (i := 10) (v := ?_) rfl (by kernel_rfl) (by kernel_rfl) (by kernel_rfl) (fun _ _ _ h => h) (Or.inl ⟨by rfl, ?_⟩) hHeld ?_
    rotate_left
    · intro wS hSw; obtain ⟨hS0, hS1, hS2, hS3⟩ := hSw; go_simp; try with_reducible rfl
    try go_simp
    refine wpAnyH_take (i := 11) (v := ?_) rfl (by kernel_rfl) (by kernel_rfl) (by kernel_rfl) (fun _ _ _ h => h) (Or.inl ⟨by rfl, ?_⟩) hHeld ?_
    rotate_left
    · intro wS hSw; obtain ⟨hS0, hS1, hS2, hS3⟩ := hSw; go_simp; try with_reducible rfl
    try go_simp
    refine wpAnyH_take (i := 12) (v := ?_) rfl (by kernel_rfl) (by kernel_rfl) (by kernel_rfl) (fun _ _ _ h => h) (Or.inl ⟨by rfl, ?_⟩) hHeld ?_
    rotate_left
    · intro wS hSw; obtain ⟨hS0, hS1, hS2, hS3⟩ := hSw; go_simp; try with_reducible rfl
    try go_simp
    refine wpAnyH_take (i := 13) (v := ?_) rfl (by kernel_rfl) (by kernel_rfl) (by kernel_rfl) (fun _ _ _ h => h) (Or.inl ⟨by rfl, ?_⟩) hHeld ?_
    rotate_left
    · intro wS hSw; obtain ⟨hS0, hS1, hS2, hS3⟩ := hSw; go_simp; try with_reducible rfl
    try go_simp
    refine wpAnyH_take (i := 14) (v := ?_) rfl (by kernel_rfl) (by kernel_rfl) (by kernel_rfl) (fun _ _ _ h => h) (Or.inl ⟨by rfl, ?_⟩) hHeld ?_
    rotate_left
    · intro wS hSw; obtain ⟨hS0, hS1, hS2, hS3⟩ := hSw; go_simp; try with_reducible rfl
    try go_simp
    refine wpAnyH_take (i := 15) (v := ?_) rfl (by kernel_rfl) (by kernel_rfl) (by kernel_rfl) (fun _ _ _ h => h) (Or.inl ⟨by rfl, ?_⟩) hHeld ?_
    rotate_left
    · intro wS hSw; obtain ⟨hS0, hS1, hS2, hS3⟩ := hSw; go_simp; try with_reducible rfl
    try go_simp
    refine wpAnyH_take (i := 16) (v := ?_) rfl (by kernel_rfl) (by kernel_rfl) (by kernel_rfl) (fun _ _ _ h => h) (Or.inl ⟨by rfl, ?_⟩) hHeld ?_
    rotate_left
    · intro wS hSw; obtain ⟨hS0, hS1, hS2, hS3⟩ := hSw; go_simp; try with_reducible rfl
    try go_simp
    refine wpAnyH_take (i := 17) (v := ?_) rfl (by kernel_rfl) (by kernel_rfl) (by kernel_rfl) (fun _ _ _ h => h) (Or.inl ⟨by rfl, ?_⟩) hHeld ?_
    rotate_left
    · intro wS hSw; obtain ⟨hS0, hS1, hS2, hS3⟩ := hSw; go_simp; try with_reducible rfl
    try go_simp
    refine wpAnyH_take (i := 18) (v := ?_) rfl (by kernel_rfl) (by kernel_rfl) (by kernel_rfl) (fun _ _ _ h => h) (Or.inl ⟨by rfl, ?_⟩) hHeld ?_
    rotate_left
    · intro wS hSw; obtain ⟨hS0, hS1, hS2, hS3⟩ := hSw; go_simp; try with_reducible rfl
    try go_simp
    refine wpAnyH_ready (rs := [19]) (by kernel_rfl) (by simp) ?_
    refine AllReadyH.cons rfl (fun K hK => ?_) AllReadyH.nil
    go_simp
    refine (able_any a1 n1 c1 xs true _ (HR1.out.below (by repeat (first | exact Below.refl _ _ | refine below_drawnN ?_ _ | refine below_drawn ?_ | refine below_new ?_ _))) (by omega)).mono ?_
    rintro e w5 ⟨⟨b1, rfl, hb1⟩, rfl⟩
    obtain rfl : b1 = true := hb1.2 HA1.out
    clear hb1
    refine hK.out _ _ ?_ (fun hHeld => ?_)
    · exact hHeld
    clear hK K
    try go_simp
    refine wpAnyH_take (i := 20) (v := ?_) rfl (by kernel_rfl) (by kernel_rfl) (by kernel_rfl) (fun _ _ _ h => h) (Or.inl ⟨by rfl, ?_⟩) hHeld ?_
    rotate_left
    · intro wS hSw; obtain ⟨hS0, hS1, hS2, hS3⟩ := hSw; go_simp; try with_reducible rfl
    try go_simp
    refine wpAnyH_take (i := 21) (v := ?_) rfl (by kernel_rfl) (by kernel_rfl) (by kernel_rfl) (fun _ _ _ h => h) (Or.inl ⟨by rfl, ?_⟩) hHeld ?_
    rotate_left
    · intro wS hSw; obtain ⟨hS0, hS1, hS2, hS3⟩ := hSw; go_simp; try with_reducible rfl
    try go_simp
    refine wpAnyH_take (i := 22) (v := ?_) rfl (by kernel_rfl) (by kernel_rfl) (by kernel_rfl) (fun _ _ _ h => h) (Or.inl ⟨by rfl, ?_⟩) hHeld ?_
    rotate_left
    · intro wS hSw; obtain ⟨hS0, hS1, hS2, hS3⟩ := hSw; go_simp; try with_reducible rfl
    try go_simp
    refine wpAnyH_take (i := 23) (v := ?_) rfl (by kernel_rfl) (by kernel_rfl) (by kernel_rfl) (fun _ _ _ h => h) (Or.inl ⟨by rfl, ?_⟩) hHeld ?_
    rotate_left
    · intro wS hSw; obtain ⟨hS0, hS1, hS2, hS3⟩ := hSw; go_simp; try with_reducible rfl
    try go_simp
    refine wpAnyH_take (i := 24) (v := ?_) rfl (by kernel_rfl) (by kernel_rfl) (by kernel_rfl) (fun _ _ _ h => h) (Or.inl ⟨by rfl, ?_⟩) hHeld ?_
    rotate_left
    · intro wS hSw; obtain ⟨hS0, hS1, hS2, hS3⟩ := hSw; go_simp; try with_reducible rfl
    try go_simp
    refine wpAnyH_take (i := 25) (v := ?_) rfl (by kernel_rfl) (by kernel_rfl) (by kernel_rfl) (fun _ _ _ h => h) (Or.inl ⟨by rfl, ?_⟩) hHeld ?_
    rotate_left
    · intro wS hSw; obtain ⟨hS0, hS1, hS2, hS3⟩ := hSw; go_simp; try with_reducible rfl
    try go_simp
    refine wpAnyH_take (i := 26) (v := ?_) rfl (by kernel_rfl) (by kernel_rfl) (by kernel_rfl) (fun _ _ _ h => h) (Or.inl ⟨by rfl, ?_⟩) hHeld ?_
    rotate_left
    · intro wS hSw; obtain ⟨hS0, hS1, hS2, hS3⟩ := hSw; go_simp; try with_reducible rfl
    try go_simp
    refine wpAnyH_ready (rs := [27]) (by kernel_rfl) (by simp) ?_
    refine AllReadyH.cons rfl (fun K hK => ?_) AllReadyH.nil
    go_simp
    refine (able_any a2 n2 c2 ys false _ (HR2.out.below (by repeat (first | exact Below.refl _ _ | refine below_drawnN ?_ _ | refine below_drawn ?_ | refine below_new ?_ _))) (by omega)).mono ?_
    rintro e w6 ⟨⟨b2, rfl, hb2⟩, rfl⟩
    obtain rfl : b2 = false := by cases b2 with | false => rfl | true => exact absurd (hb2.1 rfl) HA2.out
    clear hb2
    refine hK.out _ _ ?_ (fun hHeld => ?_)
    · exact hHeld
    clear hK K
    try go_simp
    refine wpAnyH_take (i := 28) (v := ?_) rfl (by kernel_rfl) (by kernel_rfl) (by kernel_rfl) (fun _ _ _ h => h) (Or.inl ⟨by rfl, ?_⟩) hHeld ?_
    rotate_left
    · intro wS hSw; obtain ⟨hS0, hS1, hS2, hS3⟩ := hSw; go_simp; try with_reducible rfl
    try go_simp
    refine wpAnyH_take (i := 29) (v := ?_) rfl (by kernel_rfl) (by kernel_rfl) (by kernel_rfl) (fun _ _ _ h => h) (Or.inl ⟨by rfl, ?_⟩) hHeld ?_
    rotate_left
    · intro wS hSw; obtain ⟨hS0, hS1, hS2, hS3⟩ := hSw; go_simp; try with_reducible rfl
    try go_simp
    refine wpAnyH_done (by kernel_rfl) ?_ _
    go_wp2
    go_ret
    exact ⟨⟨false, rfl, ⟨(fun h => by cases h), (fun h => absurd h.l2 (fun g => HA2.out ((listD_iff h7.2).1 g).2))⟩⟩, by repeat (first | exact Below.refl _ _ | refine below_drawnN ?_ _ | refine below_drawn ?_ | refine below_new ?_ _)⟩
  have HA2 := Lib.hid hA2
  clear hA2
  refine wp_region_held_drew (S := (fun V => V.cell? ⟨w.heap.size, 5, none⟩ = some (.slice (some ⟨ab, ao, none⟩) 2 lc) ∧ V.cell? ⟨w.heap.size, 4, none⟩ = some (.int .i64 room) ∧ V.cell? ⟨ab, ao, none⟩ = some (.slice a1 n1 c1) ∧ V.cell? ⟨ab, ao + 1, none⟩ = some (.slice a2 n2 c2))) (by kernel_rfl) ?_ (fun hHeld => ?_)
  · exact ⟨by go_simp, by go_simp, below_cell_of (by repeat (first | exact Below.refl _ _ | refine below_drawnN ?_ _ | refine below_drawn ?_ | refine below_new ?_ _)) hc1, below_cell_of (by repeat (first | exact Below.refl _ _ | refine below_drawnN ?_ _ | refine below_drawn ?_ | refine below_new ?_ _)) hc2⟩
  refine wpAnyH_take (i := 0) (v := ?_) rfl (by kernel_rfl) (by kernel_rfl) (by kernel_rfl) (fun _ _ _ h => h) (Or.inl ⟨by rfl, ?_⟩) hHeld ?_
  rotate_left
  · intro wS hSw; obtain ⟨hS0, hS1, hS2, hS3⟩ := hSw; go_simp; try with_reducible rfl
  try go_simp
  refine wpAnyH_take (i := 1) (v := ?_) rfl (by kernel_rfl) (by kernel_rfl) (by kernel_rfl) (fun _ _ _ h => h) (Or.inl ⟨by rfl, ?_⟩) hHeld ?_
  rotate_left
  · intro wS hSw; obtain ⟨hS0, hS1, hS2, hS3⟩ := hSw; go_simp; try with_reducible rfl
  try go_simp
  refine wpAnyH_take (i := 2) (v := ?_) rfl (by kernel_rfl) (by kernel_rfl) (by kernel_rfl) (fun _ _ _ h => h) (Or.inl ⟨by rfl, ?_⟩) hHeld ?_
  rotate_left
  · intro wS hSw; obtain ⟨hS0, hS1, hS2, hS3⟩ := hSw; go_simp; try with_reducible rfl
  try go_simp
  refine wpAnyH_take (i := 3) (v := ?_) rfl (by kernel_rfl) (by kernel_rfl) (by kernel_rfl) (fun _ _ _ h => h) (Or.inl ⟨by rfl, ?_⟩) hHeld ?_
  rotate_left
  · intro wS hSw; obtain ⟨hS0, hS1, hS2, hS3⟩ := hSw; go_simp; try with_reducible rfl
  try go_simp
  refine wpAnyH_take (i := 4) (v := ?_) rfl (by kernel_rfl) (by kernel_rfl) (by kernel_rfl) (fun _ _ _ h => h) (Or.inl ⟨by rfl, ?_⟩) hHeld ?_
  rotate_left
  · intro wS hSw; obtain ⟨hS0, hS1, hS2, hS3⟩ := hSw; go_simp; try with_reducible rfl
  try go_simp
  refine wpAnyH_take (i := 5) (v := ?_) rfl (by kernel_rfl) (by kernel_rfl) (by kernel_rfl) (fun _ _ _ h => h) (Or.inl ⟨by rfl, ?_⟩) hHeld ?_
  rotate_left
  · intro wS hSw; obtain ⟨hS0, hS1, hS2, hS3⟩ := hSw; go_simp; try with_reducible rfl
  try go_simp
  refine wpAnyH_take (i := 6) (v := ?_) rfl (by kernel_rfl) (by kernel_rfl) (by kernel_rfl) (fun _ _ _ h => h) (Or.inl ⟨by rfl, ?_⟩) hHeld ?_
  rotate_left
  · intro wS hSw; obtain ⟨hS0, hS1, hS2, hS3⟩ := hSw; go_simp; try with_reducible rfl
  try go_simp
  refine wpAnyH_take (i := 7) (v := ?_) rfl (by kernel_rfl) (by kernel_rfl) (by kernel_rfl) (fun _ _ _ h => h) (Or.inl ⟨by rfl, ?_⟩) hHeld ?_
  rotate_left
  · intro wS hSw; obtain ⟨hS0, hS1, hS2, hS3⟩ := hSw; go_simp; try with_reducible rfl
  try go_simp
  refine wpAnyH_take (i := 8) (v := ?_) rfl (by kernel_rfl) (by kernel_rfl) (by kernel_rfl) (fun _ _ _ h => h) (Or.inl ⟨by rfl, ?_⟩) hHeld ?_
  rotate_left
  · intro wS hSw; obtain ⟨hS0, hS1, hS2, hS3⟩ := hSw; go_simp; try with_reducible rfl
  try go_simp
  refine wpAnyH_take (i := 9) (v := ?_) rfl (by kernel_rfl) (by kernel_rfl) (by kernel_rfl) (fun _ _ _ h => h) (Or.inl ⟨by rfl, ?_⟩) hHeld ?_
  rotate_left
  · intro wS hSw; obtain ⟨hS0, hS1, hS2, hS3⟩ := hSw; go_simp; try with_reducible rfl
  try go_simp
  refine wpAnyH_take (i := 10) (v := ?_) rfl (by kernel_rfl) (by kernel_rfl) (by kernel_rfl) (fun _ _ _ h => h) (Or.inl ⟨by rfl, ?_⟩) hHeld ?_
  rotate_left
  · intro wS hSw; obtain ⟨hS0, hS1, hS2, hS3⟩ := hSw; go_simp; try with_reducible rfl
  try go_simp
  refine wpAnyH_take (i := 11) (v := ?_) rfl (by kernel_rfl) (by kernel_rfl) (by kernel_rfl) (fun _ _ _ h => h) (Or.inl ⟨by rfl, ?_⟩) hHeld ?_
  rotate_left
  · intro wS hSw; obtain ⟨hS0, hS1, hS2, hS3⟩ := hSw; go_simp; try with_reducible rfl
  try go_simp
  refine wpAnyH_take (i := 12) (v := ?_) rfl (by kernel_rfl) (by kernel_rfl) (by kernel_rfl) (fun _ _ _ h => h) (Or.inl ⟨by rfl, ?_⟩) hHeld ?_
  rotate_left
  · intro wS hSw; obtain ⟨hS0, hS1, hS2, hS3⟩ := hSw; go_simp; try with_reducible rfl
  try go_simp
  refine wpAnyH_take (i := 13) (v := ?_) rfl (by kernel_rfl) (by kernel_rfl) (by kernel_rfl) (fun _ _ _ h => h) (Or.inl ⟨by rfl, ?_⟩) hHeld ?_
  rotate_left
  · intro wS hSw; obtain ⟨hS0, hS1, hS2, hS3⟩ := hSw; go_simp; try with_reducible rfl
  try go_simp
  refine wpAnyH_take (i := 14) (v := ?_) rfl (by kernel_rfl) (by kernel_rfl) (by kernel_rfl) (fun _ _ _ h => h) (Or.inl ⟨by rfl, ?_⟩) hHeld ?_
  rotate_left
  · intro wS hSw; obtain ⟨hS0, hS1, hS2, hS3⟩ := hSw; go_simp; try with_reducible rfl
  try go_simp
  refine wpAnyH_take (i := 15) (v := ?_) rfl (by kernel_rfl) (by kernel_rfl) (by kernel_rfl) (fun _ _ _ h => h) (Or.inl ⟨by rfl, ?_⟩) hHeld ?_
  rotate_left
  · intro wS hSw; obtain ⟨hS0, hS1, hS2, hS3⟩ := hSw; go_simp; try with_reducible rfl
  try go_simp
  refine wpAnyH_take (i := 16) (v := ?_) rfl (by kernel_rfl) (by kernel_rfl) (by kernel_rfl) (fun _ _ _ h => h) (Or.inl ⟨by rfl, ?_⟩) hHeld ?_
  rotate_left
  · intro wS hSw; obtain ⟨hS0, hS1, hS2, hS3⟩ := hSw; go_simp; try with_reducible rfl
  try go_simp
  refine wpAnyH_take (i := 17) (v := ?_) rfl (by kernel_rfl) (by kernel_rfl) (by kernel_rfl) (fun _ _ _ h => h) (Or.inl ⟨by rfl, ?_⟩) hHeld ?_
  rotate_left
  · intro wS hSw; obtain ⟨hS0, hS1, hS2, hS3⟩ := hSw; go_simp; try with_reducible rfl
  try go_simp
  refine wpAnyH_take (i := 18) (v := ?_) rfl (by kernel_rfl) (by kernel_rfl) (by kernel_rfl) (fun _ _ _ h => h) (Or.inl ⟨by rfl, ?_⟩) hHeld ?_
  rotate_left
  · intro wS hSw; obtain ⟨hS0, hS1, hS2, hS3⟩ := hSw; go_simp; try with_reducible rfl
  try go_simp
  refine wpAnyH_ready (rs := [19]) (by kernel_rfl) (by simp) ?_
  refine AllReadyH.cons rfl (fun K hK => ?_) AllReadyH.nil
  go_simp
  refine (able_any a1 n1 c1 xs true _ (HR1.out.below (by repeat (first | exact Below.refl _ _ | refine below_drawnN ?_ _ | refine below_drawn ?_ | refine below_new ?_ _))) (by omega)).mono ?_
  rintro e w5 ⟨⟨b1, rfl, hb1⟩, rfl⟩
  obtain rfl : b1 = true := hb1.2 HA1.out
  clear hb1
  refine hK.out _ _ ?_ (fun hHeld => ?_)
  · exact hHeld
  clear hK K
  try go_simp
  refine wpAnyH_take (i := 20) (v := ?_) rfl (by kernel_rfl) (by kernel_rfl) (by kernel_rfl) (fun _ _ _ h => h) (Or.inl ⟨by rfl, ?_⟩) hHeld ?_
  rotate_left
  · intro wS hSw; obtain ⟨hS0, hS1, hS2, hS3⟩ := hSw; go_simp; try with_reducible rfl
  try go_simp
  refine wpAnyH_take (i := 21) (v := ?_) rfl (by kernel_rfl) (by kernel_rfl) (by kernel_rfl) (fun _ _ _ h => h) (Or.inl ⟨by rfl, ?_⟩) hHeld ?_
  rotate_left
  · intro wS hSw; obtain ⟨hS0, hS1, hS2, hS3⟩ := hSw; go_simp; try with_reducible rfl
  try go_simp
  refine wpAnyH_take (i := 22) (v := ?_) rfl (by kernel_rfl) (by kernel_rfl) (by kernel_rfl) (fun _ _ _ h => h) (Or.inl ⟨by rfl, ?_⟩) hHeld ?_
  rotate_left
  · intro wS hSw; obtain ⟨hS0, hS1, hS2, hS3⟩ := hSw; go_simp; try with_reducible rfl
  try go_simp
  refine wpAnyH_take (i := 23) (v := ?_) rfl (by kernel_rfl) (by kernel_rfl) (by kernel_rfl) (fun _ _ _ h => h) (Or.inl ⟨by rfl, ?_⟩) hHeld ?_
  rotate_left
  · intro wS hSw; obtain ⟨hS0, hS1, hS2, hS3⟩ := hSw; go_simp; try with_reducible rfl
  try go_simp
  refine wpAnyH_take (i := 24) (v := ?_) rfl (by kernel_rfl) (by kernel_rfl) (by kernel_rfl) (fun _ _ _ h => h) (Or.inl ⟨by rfl, ?_⟩) hHeld ?_
  rotate_left
  · intro wS hSw; obtain ⟨hS0, hS1, hS2, hS3⟩ := hSw; go_simp; try with_reducible rfl
  try go_simp
  refine wpAnyH_take (i := 25) (v := ?_) rfl (by kernel_rfl) (by kernel_rfl) (by kernel_rfl) (fun _ _ _ h => h) (Or.inl ⟨by rfl, ?_⟩) hHeld ?_
  rotate_left
  · intro wS hSw; obtain ⟨hS0, hS1, hS2, hS3⟩ := hSw; go_simp; try with_reducible rfl
  try go_simp
  refine wpAnyH_take (i := 26) (v := ?_) rfl (by kernel_rfl) (by kernel_rfl) (by kernel_rfl) (fun _ _ _ h => h) (Or.inl ⟨by rfl, ?_⟩) hHeld ?_
  rotate_left
  · intro wS hSw; obtain ⟨hS0, hS1, hS2, hS3⟩ := hSw; go_simp; try with_reducible rfl
  try go_simp
  refine wpAnyH_ready (rs := [27]) (by kernel_rfl) (by simp) ?_
  refine AllReadyH.cons rfl (fun K hK => ?_) AllReadyH.nil
  go_simp
  refine (able_any a2 n2 c2 ys false _ (HR2.out.below (by repeat (first | exact Below.refl _ _ | refine below_drawnN ?_ _ | refine below_drawn ?_ | refine below_new ?_ _))) (by omega)).mono ?_
  rintro e w6 ⟨⟨b2, rfl, hb2⟩, rfl⟩
  obtain rfl : b2 = true := hb2.2 HA2.out
  clear hb2
  refine hK.out _ _ ?_ (fun hHeld => ?_)
  · exact hHeld
  clear hK K
  try go_simp
  refine wpAnyH_take (i := 28) (v := ?_) rfl (by kernel_rfl) (by kernel_rfl) (by kernel_rfl) (fun _ _ _ h => h) (Or.inl ⟨by rfl, ?_⟩) hHeld ?_
  rotate_left
  · intro wS hSw; obtain ⟨hS0, hS1, hS2, hS3⟩ := hSw; go_simp; try with_reducible rfl
  try go_simp
  refine wpAnyH_take (i := 29) (v := ?_) rfl (by kernel_rfl) (by kernel_rfl) (by kernel_rfl) (fun _ _ _ h => h) (Or.inl ⟨by rfl, ?_⟩) hHeld ?_
  rotate_left
  · intro wS hSw; obtain ⟨hS0, hS1, hS2, hS3⟩ := hSw; go_simp; try with_reducible rfl
  try go_simp
  refine wpAnyH_done (by kernel_rfl) ?_ _
  clear hHeld
  clear hW dl
  go_wp2
  by_cases hL1 : Ea.listOk xs v7
  rotate_left
  · have HL1 := Lib.hid hL1
    clear hL1
    refine wp_region_held_drew (S := (fun V => V.cell? ⟨w.heap.size, 5, none⟩ = some (.slice (some ⟨ab, ao, none⟩) 2 lc) ∧ V.cell? ⟨w.heap.size, 13, none⟩ = some (.int .i64 v7) ∧ V.cell? ⟨ab, ao, none⟩ = some (.slice a1 n1 c1) ∧ V.cell? ⟨ab, ao + 1, none⟩ = some (.slice a2 n2 c2))) (by kernel_rfl) ?_ (fun hHeld => ?_)
    · exact ⟨by go_simp, by go_simp, below_cell_of (by repeat (first | exact Below.refl _ _ | refine below_drawnN ?_ _ | refine below_drawn ?_ | refine below_new ?_ _)) hc1, below_cell_of (by repeat (first | exact Below.refl _ _ | refine below_drawnN ?_ _ | refine below_drawn ?_ | refine below_new ?_ _)) hc2⟩
    refine wpAnyH_take (i := 0) (v := ?_) rfl (by kernel_rfl) (by kernel_rfl) (by kernel_rfl) (fun _ _ _ h => h) (Or.inl ⟨by rfl, ?_⟩) hHeld ?_
    rotate_left
    · intro wS hSw; obtain ⟨hS0, hS1, hS2, hS3⟩ := hSw; go_simp; try with_reducible rfl
    try go_simp
    refine wpAnyH_take (i := 1) (v := ?_) rfl (by kernel_rfl) (by kernel_rfl) (by kernel_rfl) (fun _ _ _ h => h) (Or.inl ⟨by rfl, ?_⟩) hHeld ?_
    rotate_left
    · intro wS hSw; obtain ⟨hS0, hS1, hS2, hS3⟩ := hSw; go_simp; try with_reducible rfl
    try go_simp
    refine wpAnyH_take (i := 2) (v := ?_) rfl (by kernel_rfl) (by kernel_rfl) (by kernel_rfl) (fun _ _ _ h => h) (Or.inl ⟨by rfl, ?_⟩) hHeld ?_
    rotate_left
    · intro wS hSw; obtain ⟨hS0, hS1, hS2, hS3⟩ := hSw; go_simp; try with_reducible rfl
    try go_simp
    refine wpAnyH_take (i := 3) (v := ?_) rfl (by kernel_rfl) (by kernel_rfl) (by kernel_rfl) (fun _ _ _ h => h) (Or.inl ⟨by rfl, ?_⟩) hHeld ?_
    rotate_left
    · intro wS hSw; obtain ⟨hS0, hS1, hS2, hS3⟩ := hSw; go_simp; try with_reducible rfl
    try go_simp
    refine wpAnyH_take (i := 4) (v := ?_) rfl (by kernel_rfl) (by kernel_rfl) (by kernel_rfl) (fun _ _ _ h => h) (Or.inl ⟨by rfl, ?_⟩) hHeld ?_
    rotate_left
    · intro wS hSw; obtain ⟨hS0, hS1, hS2, hS3⟩ := hSw; go_simp; try with_reducible rfl
    try go_simp
    refine wpAnyH_take (i := 5) (v := ?_) rfl (by kernel_rfl) (by kernel_rfl) (by kernel_rfl) (fun _ _ _ h => h) (Or.inl ⟨by rfl, ?_⟩) hHeld ?_
    rotate_left
    · intro wS hSw; obtain ⟨hS0, hS1, hS2, hS3⟩ := hSw; go_simp; try with_reducible rfl
    try go_simp
    refine wpAnyH_take (i := 6) (v := ?_) rfl (by kernel_rfl) (by kernel_rfl) (by kernel_rfl) (fun _ _ _ h => h) (Or.inl ⟨by rfl, ?_⟩) hHeld ?_
    rotate_left
    · intro wS hSw; obtain ⟨hS0, hS1, hS2, hS3⟩ := hSw; go_simp; try with_reducible rfl
    try go_simp
    refine wpAnyH_ready (rs := [7]) (by kernel_rfl) (by simp) ?_
    refine AllReadyH.cons rfl (fun K hK => ?_) AllReadyH.nil
    go_simp
    refine (rlist_any a1 n1 c1 xs v7 _ (HR1.out.below (by repeat (first | exact Below.refl _ _ | refine below_drawnN ?_ _ | refine below_drawn ?_ | refine below_new ?_ _))) (by omega)).mono ?_
    rintro e w5 ⟨⟨b1, rfl, hb1⟩, hb⟩
    obtain rfl : b1 = false := by cases b1 with | false => rfl | true => exact absurd (hb1.1 rfl) HL1.out
    have HB5 : RowKit.Hid (Below w.heap.size w w5) := Lib.hid (below_on (by repeat (first | exact Below.refl _ _ | refine below_drawnN ?_ _ | refine below_drawn ?_ | refine below_new ?_ _)) hb)
    clear hb1
    refine hK.out _ _ ?_ ?_
    · exact ⟨below_cell_of hb hHeld.1, below_cell_of hb hHeld.2.1, below_cell_of hb hHeld.2.2.1, below_cell_of hb hHeld.2.2.2⟩
    clear hK K hHeld hb
    intro hHeld
    try go_simp
    refine wpAnyH_take (i := 8) (v := ?_) rfl (by kernel_rfl) (by kernel_rfl) (by kernel_rfl) (fun _ _ _ h => h) (Or.inl ⟨by rfl, ?_⟩) hHeld ?_
    rotate_left
    · intro wS hSw; obtain ⟨hS0, hS1, hS2, hS3⟩ := hSw; go_simp; try with_reducible rfl
    try go_simp
    refine wpAnyH_take (i := 9) (v := undef) rfl (by kernel_rfl) (by kernel_rfl) (by kernel_rfl) (fun _ _ _ h => h) (Or.inr ⟨by rfl, rfl⟩) hHeld ?_
    try go_simp
    refine wpAnyH_take (i := 10) (v := undef) rfl (by kernel_rfl) (by kernel_rfl) (by kernel_rfl) (fun _ _ _ h => h) (Or.inr ⟨by rfl, rfl⟩) hHeld ?_
    try go_simp
    refine wpAnyH_take (i := 11) (v := undef) rfl (by kernel_rfl) (by kernel_rfl) (by kernel_rfl) (fun _ _ _ h => h) (Or.inr ⟨by rfl, rfl⟩) hHeld ?_
    try go_simp
    refine wpAnyH_take (i := 12) (v := undef) rfl (by kernel_rfl) (by kernel_rfl) (by kernel_rfl) (fun _ _ _ h => h) (Or.inr ⟨by rfl, rfl⟩) hHeld ?_
    try go_simp
    refine wpAnyH_take (i := 13) (v := undef) rfl (by kernel_rfl) (by kernel_rfl) (by kernel_rfl) (fun _ _ _ h => h) (Or.inr ⟨by rfl, rfl⟩) hHeld ?_
    try go_simp
    refine wpAnyH_take (i := 14) (v := undef) rfl (by kernel_rfl) (by kernel_rfl) (by kernel_rfl) (fun _ _ _ h => h) (Or.inr ⟨by rfl, rfl⟩) hHeld ?_
    try go_simp
    refine wpAnyH_take (i := 15) (v := undef) rfl (by kernel_rfl) (by kernel_rfl) (by kernel_rfl) (fun _ _ _ h => h) (Or.inr ⟨by rfl, rfl⟩) hHeld ?_
    try go_simp
    refine wpAnyH_take (i := 16) (v := undef) rfl (by kernel_rfl) (by kernel_rfl) (by kernel_rfl) (fun _ _ _ h => h) (Or.inr ⟨by rfl, rfl⟩) hHeld ?_
    try go_simp
    refine wpAnyH_take (i := 17) (v := ?_) rfl (by kernel_rfl) (by kernel_rfl) (by kernel_rfl) (fun _ _ _ h => h) (Or.inl ⟨by rfl, ?_⟩) hHeld ?_
    rotate_left
    · intro wS hSw; obtain ⟨hS0, hS1, hS2, hS3⟩ := hSw; go_simp; try with_reducible rfl
    try go_simp
    refine wpAnyH_take (i := 18) (v := ?_) rfl (by kernel_rfl) (by kernel_rfl) (by kernel_rfl) (fun _ _ _ h => h) (Or.inl ⟨by rfl, ?_⟩) hHeld ?_
    rotate_left
    · intro wS hSw; obtain ⟨hS0, hS1, hS2, hS3⟩ := hSw; go_simp; try with_reducible rfl
    try go_simp
    refine wpAnyH_done (by kernel_rfl) ?_ _
    go_wp2
    go_ret
    exact ⟨⟨false, rfl, ⟨(fun h => by cases h), (fun h => absurd ((listD_iff h7.2).1 h.l1).1 HL1.out)⟩⟩, below_drawnN HB5.out 0⟩
  have HL1 := Lib.hid hL1
  clear hL1
  by_cases hL2 : Ea.listOk ys v7
  rotate_left
  · have HL2 := Lib.hid hL2
    clear hL2
    refine wp_region_held_drew (S := (fun V => V.cell? ⟨w.heap.size, 5, none⟩ = some (.slice (some ⟨ab, ao, none⟩) 2 lc) ∧ V.cell? ⟨w.heap.size, 13, none⟩ = some (.int .i64 v7) ∧ V.cell? ⟨ab, ao, none⟩ = some (.slice a1 n1 c1) ∧ V.cell? ⟨ab, ao + 1, none⟩ = some (.slice a2 n2 c2))) (by kernel_rfl) ?_ (fun hHeld => ?_)
    · exact ⟨by go_simp, by go_simp, below_cell_of (by repeat (first | exact Below.refl _ _ | refine below_drawnN ?_ _ | refine below_drawn ?_ | refine below_new ?_ _)) hc1, below_cell_of (by repeat (first | exact Below.refl _ _ | refine below_drawnN ?_ _ | refine below_drawn ?_ | refine below_new ?_ _)) hc2⟩
    refine wpAnyH_take (i := 0) (v := ?_) rfl (by kernel_rfl) (by kernel_rfl) (by kernel_rfl) (fun _ _ _ h => h) (Or.inl ⟨by rfl, ?_⟩) hHeld ?_
    rotate_left
    · intro wS hSw; obtain ⟨hS0, hS1, hS2, hS3⟩ := hSw; go_simp; try with_reducible rfl
    try go_simp
    refine wpAnyH_take (i := 1) (v := ?_) rfl (by kernel_rfl) (by kernel_rfl) (by kernel_rfl) (fun _ _ _ h => h) (Or.inl ⟨by rfl, ?_⟩) hHeld ?_
    rotate_left
    · intro wS hSw; obtain ⟨hS0, hS1, hS2, hS3⟩ := hSw; go_simp; try with_reducible rfl
    try go_simp
    refine wpAnyH_take (i := 2) (v := ?_) rfl (by kernel_rfl) (by kernel_rfl) (by kernel_rfl) (fun _ _ _ h => h) (Or.inl ⟨by rfl, ?_⟩) hHeld ?_
    rotate_left
    · intro wS hSw; obtain ⟨hS0, hS1, hS2, hS3⟩ := hSw; go_simp; try with_reducible rfl
    try go_simp
    refine wpAnyH_take (i := 3) (v := ?_) rfl (by kernel_rfl) (by kernel_rfl) (by kernel_rfl) (fun _ _ _ h => h) (Or.inl ⟨by rfl, ?_⟩) hHeld ?_
    rotate_left
    · intro wS hSw; obtain ⟨hS0, hS1, hS2, hS3⟩ := hSw; go_simp; try with_reducible rfl
    try go_simp
    refine wpAnyH_take (i := 4) (v := ?_) rfl (by kernel_rfl) (by kernel_rfl) (by kernel_rfl) (fun _ _ _ h => h) (Or.inl ⟨by rfl, ?_⟩) hHeld ?_
    rotate_left
    · intro wS hSw; obtain ⟨hS0, hS1, hS2, hS3⟩ := hSw; go_simp; try with_reducible rfl
    try go_simp
    refine wpAnyH_take (i := 5) (v := ?_) rfl (by kernel_rfl) (by kernel_rfl) (by kernel_rfl) (fun _ _ _ h => h) (Or.inl ⟨by rfl, ?_⟩) hHeld ?_
    rotate_left
    · intro wS hSw; obtain ⟨hS0, hS1, hS2, hS3⟩ := hSw; go_simp; try with_reducible rfl
    try go_simp
    refine wpAnyH_take (i := 6) (v := ?_) rfl (by kernel_rfl) (by kernel_rfl) (by kernel_rfl) (fun _ _ _ h => h) (Or.inl ⟨by rfl, ?_⟩) hHeld ?_
    rotate_left
    · intro wS hSw; obtain ⟨hS0, hS1, hS2, hS3⟩ := hSw; go_simp; try with_reducible rfl
    try go_simp
    refine wpAnyH_ready (rs := [7]) (by kernel_rfl) (by simp) ?_
    refine AllReadyH.cons rfl (fun K hK => ?_) AllReadyH.nil
    go_simp
    refine (rlist_any a1 n1 c1 xs v7 _ (HR1.out.below (by repeat (first | exact Below.refl _ _ | refine below_drawnN ?_ _ | refine below_drawn ?_ | refine below_new ?_ _))) (by omega)).mono ?_
    rintro e w5 ⟨⟨b1, rfl, hb1⟩, hb⟩
    obtain rfl : b1 = true := hb1.2 HL1.out
    have HB5 : RowKit.Hid (Below w.heap.size w w5) := Lib.hid (below_on (by repeat (first | exact Below.refl _ _ | refine below_drawnN ?_ _ | refine below_drawn ?_ | refine below_new ?_ _)) hb)
    clear hb1
    refine hK.out _ _ ?_ ?_
    · exact ⟨below_cell_of hb hHeld.1, below_cell_of hb hHeld.2.1, below_cell_of hb hHeld.2.2.1, below_cell_of hb hHeld.2.2.2⟩
    clear hK K hHeld hb
    intro hHeld
    try go_simp
    refine wpAnyH_take (i := 8) (v := ?_) rfl (by kernel_rfl) (by kernel_rfl) (by kernel_rfl) (fun _ _ _ h => h) (Or.inl ⟨by rfl, ?_⟩) hHeld ?_
    rotate_left
    · intro wS hSw; obtain ⟨hS0, hS1, hS2, hS3⟩ := hSw; go_simp; try with_reducible rfl
    try go_simp
    refine wpAnyH_take (i := 9) (v := ?_) rfl (by kernel_rfl) (by kernel_rfl) (by kernel_rfl) (fun _ _ _ h => h) (Or.inl ⟨by rfl, ?_⟩) hHeld ?_
    rotate_left
    · intro wS hSw; obtain ⟨hS0, hS1, hS2, hS3⟩ := hSw; go_simp; try with_reducible rfl
    try go_simp
    refine wpAnyH_take (i := 10) (v := ?_) rfl (by kernel_rfl) (by kernel_rfl) (by kernel_rfl) (fun _ _ _ h => h) (Or.inl ⟨by rfl, ?_⟩) hHeld ?_
    rotate_left
    · intro wS hSw; obtain ⟨hS0, hS1, hS2, hS3⟩ := hSw; go_simp; try with_reducible rfl
    try go_simp
    refine wpAnyH_take (i := 11) (v := ?_) rfl (by kernel_rfl) (by kernel_rfl) (by kernel_rfl) (fun _ _ _ h => h) (Or.inl ⟨by rfl, ?_⟩) hHeld ?_
    rotate_left
    · intro wS hSw; obtain ⟨hS0, hS1, hS2, hS3⟩ := hSw; go_simp; try with_reducible rfl
    try go_simp
    refine wpAnyH_take (i := 12) (v := ?_) rfl (by kernel_rfl) (by kernel_rfl) (by kernel_rfl) (fun _ _ _ h => h) (Or.inl ⟨by rfl, ?_⟩) hHeld ?_
    rotate_left
    · intro wS hSw; obtain ⟨hS0, hS1, hS2, hS3⟩ := hSw; go_simp; try with_reducible rfl
    try go_simp
    refine wpAnyH_take (i := 13) (v := ?_) rfl (by kernel_rfl) (by kernel_rfl) (by kernel_rfl) (fun _ _ _ h => h) (Or.inl ⟨by rfl, ?_⟩) hHeld ?_
    rotate_left
    · intro wS hSw; obtain ⟨hS0, hS1, hS2, hS3⟩ := hSw; go_simp; try with_reducible rfl
    try go_simp
    refine wpAnyH_take (i := 14) (v := ?_) rfl (by kernel_rfl) (by kernel_rfl) (by kernel_rfl) (fun _ _ _ h => h) (Or.inl ⟨by rfl, ?_⟩) hHeld ?_
    rotate_left
    · intro wS hSw; obtain ⟨hS0, hS1, hS2, hS3⟩ := hSw; go_simp; try with_reducible rfl
    try go_simp
    refine wpAnyH_take (i := 15) (v := ?_) rfl (by kernel_rfl) (by kernel_rfl) (by kernel_rfl) (fun _ _ _ h => h) (Or.inl ⟨by rfl, ?_⟩) hHeld ?_
    rotate_left
    · intro wS hSw; obtain ⟨hS0, hS1, hS2, hS3⟩ := hSw; go_simp; try with_reducible rfl
    try go_simp
    refine wpAnyH_ready (rs := [16]) (by kernel_rfl) (by simp) ?_
    refine AllReadyH.cons rfl (fun K hK => ?_) AllReadyH.nil
    go_simp
    refine (rlist_any a2 n2 c2 ys v7 _ (HR2.out.below HB5.out) (by omega)).mono ?_
    rintro e w6 ⟨⟨b2, rfl, hb2⟩, hb⟩
    obtain rfl : b2 = false := by cases b2 with | false => rfl | true => exact absurd (hb2.1 rfl) HL2.out
    have HB6 : RowKit.Hid (Below w.heap.size w w6) := Lib.hid (below_on HB5.out hb)
    clear hb2
    refine hK.out _ _ ?_ ?_
    · exact ⟨below_cell_of hb hHeld.1, below_cell_of hb hHeld.2.1, below_cell_of hb hHeld.2.2.1, below_cell_of hb hHeld.2.2.2⟩
    clear hK K hHeld hb
    intro hHeld
    try go_simp
    refine wpAnyH_take (i := 17) (v := ?_) rfl (by kernel_rfl) (by kernel_rfl) (by kernel_rfl) (fun _ _ _ h => h) (Or.inl ⟨by rfl, ?_⟩) hHeld ?_
    rotate_left
    · intro wS hSw; obtain ⟨hS0, hS1, hS2, hS3⟩ := hSw; go_simp; try with_reducible rfl
    try go_simp
    refine wpAnyH_take (i := 18) (v := ?_) rfl (by kernel_rfl) (by kernel_rfl) (by kernel_rfl) (fun _ _ _ h => h) (Or.inl ⟨by rfl, ?_⟩) hHeld ?_
    rotate_left
    · intro wS hSw; obtain ⟨hS0, hS1, hS2, hS3⟩ := hSw; go_simp; try with_reducible rfl
    try go_simp
    refine wpAnyH_done (by kernel_rfl) ?_ _
    go_wp2
    go_ret
    exact ⟨⟨false, rfl, ⟨(fun h => by cases h), (fun h => absurd ((listD_iff h7.2).1 h.l2).1 HL2.out)⟩⟩, below_drawnN HB6.out 0⟩
  have HL2 := Lib.hid hL2
  clear hL2
  refine wp_region_held_drew (S := (fun V => V.cell? ⟨w.heap.size, 5, none⟩ = some (.slice (some ⟨ab, ao, none⟩) 2 lc) ∧ V.cell? ⟨w.heap.size, 13, none⟩ = some (.int .i64 v7) ∧ V.cell? ⟨ab, ao, none⟩ = some (.slice a1 n1 c1) ∧ V.cell? ⟨ab, ao + 1, none⟩ = some (.slice a2 n2 c2))) (by kernel_rfl) ?_ (fun hHeld => ?_)
  · exact ⟨by go_simp, by go_simp, below_cell_of (by repeat (first | exact Below.refl _ _ | refine below_drawnN ?_ _ | refine below_drawn ?_ | refine below_new ?_ _)) hc1, below_cell_of (by repeat (first | exact Below.refl _ _ | refine below_drawnN ?_ _ | refine below_drawn ?_ | refine below_new ?_ _)) hc2⟩
  refine wpAnyH_take (i := 0) (v := ?_) rfl (by kernel_rfl) (by kernel_rfl) (by kernel_rfl) (fun _ _ _ h => h) (Or.inl ⟨by rfl, ?_⟩) hHeld ?_
  rotate_left
  · intro wS hSw; obtain ⟨hS0, hS1, hS2, hS3⟩ := hSw; go_simp; try with_reducible rfl
  try go_simp
  refine wpAnyH_take (i := 1) (v := ?_) rfl (by kernel_rfl) (by kernel_rfl) (by kernel_rfl) (fun _ _ _ h => h) (Or.inl ⟨by rfl, ?_⟩) hHeld ?_
  rotate_left
  · intro wS hSw; obtain ⟨hS0, hS1, hS2, hS3⟩ := hSw; go_simp; try with_reducible rfl
  try go_simp
  refine wpAnyH_take (i := 2) (v := ?_) rfl (by kernel_rfl) (by kernel_rfl) (by kernel_rfl) (fun _ _ _ h => h) (Or.inl ⟨by rfl, ?_⟩) hHeld ?_
  rotate_left
  · intro wS hSw; obtain ⟨hS0, hS1, hS2, hS3⟩ := hSw; go_simp; try with_reducible rfl
  try go_simp
  refine wpAnyH_take (i := 3) (v := ?_) rfl (by kernel_rfl) (by kernel_rfl) (by kernel_rfl) (fun _ _ _ h => h) (Or.inl ⟨by rfl, ?_⟩) hHeld ?_
  rotate_left
  · intro wS hSw; obtain ⟨hS0, hS1, hS2, hS3⟩ := hSw; go_simp; try with_reducible rfl
  try go_simp
  refine wpAnyH_take (i := 4) (v := ?_) rfl (by kernel_rfl) (by kernel_rfl) (by kernel_rfl) (fun _ _ _ h => h) (Or.inl ⟨by rfl, ?_⟩) hHeld ?_
  rotate_left
  · intro wS hSw; obtain ⟨hS0, hS1, hS2, hS3⟩ := hSw; go_simp; try with_reducible rfl
  try go_simp
  refine wpAnyH_take (i := 5) (v := ?_) rfl (by kernel_rfl) (by kernel_rfl) (by kernel_rfl) (fun _ _ _ h => h) (Or.inl ⟨by rfl, ?_⟩) hHeld ?_
  rotate_left
  · intro wS hSw; obtain ⟨hS0, hS1, hS2, hS3⟩ := hSw; go_simp; try with_reducible rfl
  try go_simp
  refine wpAnyH_take (i := 6) (v := ?_) rfl (by kernel_rfl) (by kernel_rfl) (by kernel_rfl) (fun _ _ _ h => h) (Or.inl ⟨by rfl, ?_⟩) hHeld ?_
  rotate_left
  · intro wS hSw; obtain ⟨hS0, hS1, hS2, hS3⟩ := hSw; go_simp; try with_reducible rfl
  try go_simp
  refine wpAnyH_ready (rs := [7]) (by kernel_rfl) (by simp) ?_
  refine AllReadyH.cons rfl (fun K hK => ?_) AllReadyH.nil
  go_simp
  refine (rlist_any a1 n1 c1 xs v7 _ (HR1.out.below (by repeat (first | exact Below.refl _ _ | refine below_drawnN ?_ _ | refine below_drawn ?_ | refine below_new ?_ _))) (by omega)).mono ?_
  rintro e w5 ⟨⟨b1, rfl, hb1⟩, hb⟩
  obtain rfl : b1 = true := hb1.2 HL1.out
  have HB5 : RowKit.Hid (Below w.heap.size w w5) := Lib.hid (below_on (by repeat (first | exact Below.refl _ _ | refine below_drawnN ?_ _ | refine below_drawn ?_ | refine below_new ?_ _)) hb)
  clear hb1
  refine hK.out _ _ ?_ ?_
  · exact ⟨below_cell_of hb hHeld.1, below_cell_of hb hHeld.2.1, below_cell_of hb hHeld.2.2.1, below_cell_of hb hHeld.2.2.2⟩
  clear hK K hHeld hb
  intro hHeld
  try go_simp
  refine wpAnyH_take (i := 8) (v := ?_) rfl (by kernel_rfl) (by kernel_rfl) (by kernel_rfl) (fun _ _ _ h => h) (Or.inl ⟨by rfl, ?_⟩) hHeld ?_
  rotate_left
  · intro wS hSw; obtain ⟨hS0, hS1, hS2, hS3⟩ := hSw; go_simp; try with_reducible rfl
  try go_simp
  refine wpAnyH_take (i := 9) (v := ?_) rfl (by kernel_rfl) (by kernel_rfl) (by kernel_rfl) (fun _ _ _ h => h) (Or.inl ⟨by rfl, ?_⟩) hHeld ?_
  rotate_left
  · intro wS hSw; obtain ⟨hS0, hS1, hS2, hS3⟩ := hSw; go_simp; try with_reducible rfl
  try go_simp
  refine wpAnyH_take (i := 10) (v := ?_) rfl (by kernel_rfl) (by kernel_rfl) (by kernel_rfl) (fun _ _ _ h => h) (Or.inl ⟨by rfl, ?_⟩) hHeld ?_
  rotate_left
  · intro wS hSw; obtain ⟨hS0, hS1, hS2, hS3⟩ := hSw; go_simp; try with_reducible rfl
  try go_simp
  refine wpAnyH_take (i := 11) (v := ?_) rfl (by kernel_rfl) (by kernel_rfl) (by kernel_rfl) (fun _ _ _ h => h) (Or.inl ⟨by rfl, ?_⟩) hHeld ?_
  rotate_left
  · intro wS hSw; obtain ⟨hS0, hS1, hS2, hS3⟩ := hSw; go_simp; try with_reducible rfl
  try go_simp
  refine wpAnyH_take (i := 12) (v := ?_) rfl (by kernel_rfl) (by kernel_rfl) (by kernel_rfl) (fun _ _ _ h => h) (Or.inl ⟨by rfl, ?_⟩) hHeld ?_
  rotate_left
  · intro wS hSw; obtain ⟨hS0, hS1, hS2, hS3⟩ := hSw; go_simp; try with_reducible rfl
  try go_simp
  refine wpAnyH_take (i := 13) (v := ?_) rfl (by kernel_rfl) (by kernel_rfl) (by kernel_rfl) (fun _ _ _ h => h) (Or.inl ⟨by rfl, ?_⟩) hHeld ?_
  rotate_left
  · intro wS hSw; obtain ⟨hS0, hS1, hS2, hS3⟩ := hSw; go_simp; try with_reducible rfl
  try go_simp
  refine wpAnyH_take (i := 14) (v := ?_) rfl (by kernel_rfl) (by kernel_rfl) (by kernel_rfl) (fun _ _ _ h => h) (Or.inl ⟨by rfl, ?_⟩) hHeld ?_
  rotate_left
  · intro wS hSw; obtain ⟨hS0, hS1, hS2, hS3⟩ := hSw; go_simp; try with_reducible rfl
  try go_simp
  refine wpAnyH_take (i := 15) (v := ?_) rfl (by kernel_rfl) (by kernel_rfl) (by kernel_rfl) (fun _ _ _ h => h) (Or.inl ⟨by rfl, ?_⟩) hHeld ?_
  rotate_left
  · intro wS hSw; obtain ⟨hS0, hS1, hS2, hS3⟩ := hSw; go_simp; try with_reducible rfl
  try go_simp
  refine wpAnyH_ready (rs := [16]) (by kernel_rfl) (by simp) ?_
  refine AllReadyH.cons rfl (fun K hK => ?_) AllReadyH.nil
  go_simp
  refine (rlist_any a2 n2 c2 ys v7 _ (HR2.out.below HB5.out) (by omega)).mono ?_
  rintro e w6 ⟨⟨b2, rfl, hb2⟩, hb⟩
  obtain rfl : b2 = true := hb2.2 HL2.out
  have HB6 : RowKit.Hid (Below w.heap.size w w6) := Lib.hid (below_on HB5.out hb)
  clear hb2
  refine hK.out _ _ ?_ ?_
  · exact ⟨below_cell_of hb hHeld.1, below_cell_of hb hHeld.2.1, below_cell_of hb hHeld.2.2.1, below_cell_of hb hHeld.2.2.2⟩
  clear hK K hHeld hb
  intro hHeld
  try go_simp
  refine wpAnyH_take (i := 17) (v := ?_) rfl (by kernel_rfl) (by kernel_rfl) (by kernel_rfl) (fun _ _ _ h => h) (Or.inl ⟨by rfl, ?_⟩) hHeld ?_
  rotate_left
  · intro wS hSw; obtain ⟨hS0, hS1, hS2, hS3⟩ := hSw; go_simp; try with_reducible rfl
  try go_simp
  refine wpAnyH_take (i := 18) (v := ?_) rfl (by kernel_rfl) (by kernel_rfl) (by kernel_rfl) (fun _ _ _ h => h) (Or.inl ⟨by rfl, ?_⟩) hHeld ?_
  rotate_left
  · intro wS hSw; obtain ⟨hS0, hS1, hS2, hS3⟩ := hSw; go_simp; try with_reducible rfl
  try go_simp
  refine wpAnyH_done (by kernel_rfl) ?_ _
  go_wp2
  go_ret
  exact ⟨⟨true, rfl, ⟨fun _ => ⟨rfl, rfl, rfl, rfl, rfl, rfl, h0, h7, hlen, (listD_iff h7.2).2 ⟨HL1.out, HA1.out⟩, (listD_iff h7.2).2 ⟨HL2.out, HA2.out⟩⟩, fun _ => rfl⟩⟩, below_drawnN HB6.out 0⟩
end Go.Proofs.YtdecclklenaoaaaDoor
