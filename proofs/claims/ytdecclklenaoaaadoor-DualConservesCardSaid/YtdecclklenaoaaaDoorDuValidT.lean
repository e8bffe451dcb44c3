/- Valid of package dual, at a queue of the right form. -/
import Derived.Test.YtdecclklenaoaaaDoorDuValid
namespace Go.Proofs.YtdecclklenaoaaaDoor
open Go.RowKit

set_option maxRecDepth 100000 in
set_option maxHeartbeats 16000000 in
theorem dvalid_two (A B room : Int) (ab ao : Nat) (lc : Nat) (v0 v1 v2 v3 v4 v5 v6 v7 : Int) (s : Nat) (w : World) (a1 : Option Addr) (n1 c1 : Nat) (xs : List Ea.Item) (a2 : Option Addr) (n2 c2 : Nat) (ys : List Ea.Item)
    (hc1 : w.cell? ⟨ab, ao, none⟩ = some (.slice a1 n1 c1)) (hc2 : w.cell? ⟨ab, ao + 1, none⟩ = some (.slice a2 n2 c2)) (hr1 : RdQ w a1 n1 xs) (hr2 : RdQ w a2 n2 ys) (hn1 : (n1 : Int) ≤ 4611686018427387903) (hn2 : (n2 : Int) ≤ 4611686018427387903)
    (p0 : 0 ≤ A) (p1 : A ≤ 1000000) (p2 : 0 ≤ B) (p3 : B ≤ 1000) (p4 : 1 ≤ room) (p5 : room ≤ 500) :
    Calls Tryd.prog 18 #[.agg #[.int .i64 6, .int .i64 A, .int .i64 B, .int .i64 0, .int .i64 room, .slice (some ⟨ab, ao, none⟩) 2 lc, .int .i64 v0, .int .i64 v1, .int .i64 v2, .int .i64 v3, .int .i64 v4, .int .i64 v5, .int .i64 v6, .int .i64 v7, .int .u64 (s : Int)]] w fun e V => SaysIff w (DvP room v0 v1 v2 v3 v4 v5 v6 v7 n1 n2 xs ys) e V := by
  have hA1 : ∀ o1 o2 o3, (((w.alloc o1).alloc o2).alloc o3).cell? ⟨ab, ao, none⟩ = some (.slice a1 n1 c1) := fun o1 o2 o3 => below_cell_of (below_new (below_new (below_new (Below.refl _ _) _) _) _) hc1
  have hA2 : ∀ o1 o2 o3, (((w.alloc o1).alloc o2).alloc o3).cell? ⟨ab, ao + 1, none⟩ = some (.slice a2 n2 c2) := fun o1 o2 o3 => below_cell_of (below_new (below_new (below_new (Below.refl _ _) _) _) _) hc2
  have HR1 := Lib.hid hr1
  have HR2 := Lib.hid hr2
  clear hr1 hr2
  go_enter Tryd.func18, Tryd.ntmps18
  go_wp2
  refine wp_region_held_drew (S := (fun V => V.rangeAt w.heap.size 0 [.int .i64 6, .int .i64 A, .int .i64 B, .int .i64 0] ∧ V.rangeAt w.heap.size 6 [.int .i64 v0, .int .i64 v1, .int .i64 v2, .int .i64 v3, .int .i64 v4, .int .i64 v5, .int .i64 v6, .int .i64 v7])) (by kernel_rfl) ?_ (fun hHeld => ?_)
  · exact ⟨rangeAt_below (range_mid [] [.int .i64 6, .int .i64 A, .int .i64 B, .int .i64 0] ([.int .i64 room, .slice (some ⟨ab, ao, none⟩) 2 lc] ++ [.int .i64 v0, .int .i64 v1, .int .i64 v2, .int .i64 v3, .int .i64 v4, .int .i64 v5, .int .i64 v6, .int .i64 v7] ++ [.int .u64 (s : Int)]) (Blk.new w #[.int .i64 6, .int .i64 A, .int .i64 B, .int .i64 0, .int .i64 room, .slice (some ⟨ab, ao, none⟩) 2 lc, .int .i64 v0, .int .i64 v1, .int .i64 v2, .int .i64 v3, .int .i64 v4, .int .i64 v5, .int .i64 v6, .int .i64 v7, .int .u64 (s : Int)] 28).range) (below_drawn (Below.refl _ _)), rangeAt_below (range_mid ([.int .i64 6, .int .i64 A, .int .i64 B, .int .i64 0] ++ [.int .i64 room, .slice (some ⟨ab, ao, none⟩) 2 lc]) [.int .i64 v0, .int .i64 v1, .int .i64 v2, .int .i64 v3, .int .i64 v4, .int .i64 v5, .int .i64 v6, .int .i64 v7] [.int .u64 (s : Int)] (Blk.new w #[.int .i64 6, .int .i64 A, .int .i64 B, .int .i64 0, .int .i64 room, .slice (some ⟨ab, ao, none⟩) 2 lc, .int .i64 v0, .int .i64 v1, .int .i64 v2, .int .i64 v3, .int .i64 v4, .int .i64 v5, .int .i64 v6, .int .i64 v7, .int .u64 (s : Int)] 28).range) (below_drawn (Below.refl _ _))⟩
  refine wpAnyH_take (i := 0) (v := ?_) rfl (by kernel_rfl) (by kernel_rfl) (by kernel_rfl) (fun _ _ _ h => h) (Or.inl ⟨by rfl, ?_⟩) hHeld ?_
  rotate_left
  · intro wS hSw; obtain ⟨hS0, hS1⟩ := hSw; go_simp; try with_reducible rfl
  try go_simp
  refine wpAnyH_take (i := 1) (v := (.agg [.int .i64 6, .int .i64 A, .int .i64 B, .int .i64 0].toArray)) rfl (by kernel_rfl) (by kernel_rfl) (by kernel_rfl) (fun _ _ _ h => h) (yieldsIf_load_mid (by rfl) 23 _ rfl w.heap.size 0 rfl [.int .i64 6, .int .i64 A, .int .i64 B, .int .i64 0] _ (fun _ h => h.1) Tryd.underlying23 rfl (by kernel_rfl)) hHeld ?_
  try go_simp
  refine wpAnyH_take (i := 2) (v := ?_) rfl (by kernel_rfl) (by kernel_rfl) (by kernel_rfl) (fun _ _ _ h => h) (Or.inl ⟨by rfl, ?_⟩) hHeld ?_
  rotate_left
  · intro wS hSw; obtain ⟨hS0, hS1⟩ := hSw; go_simp; try with_reducible rfl
  try go_simp
  refine wpAnyH_take (i := 3) (v := (.agg [.int .i64 v0, .int .i64 v1, .int .i64 v2, .int .i64 v3, .int .i64 v4, .int .i64 v5, .int .i64 v6, .int .i64 v7].toArray)) rfl (by kernel_rfl) (by kernel_rfl) (by kernel_rfl) (fun _ _ _ h => h) (yieldsIf_load_mid (by rfl) 25 _ rfl w.heap.size 6 rfl [.int .i64 v0, .int .i64 v1, .int .i64 v2, .int .i64 v3, .int .i64 v4, .int .i64 v5, .int .i64 v6, .int .i64 v7] _ (fun _ h => h.2) Tryd.underlying25 rfl (by kernel_rfl)) hHeld ?_
  try go_simp
  refine wpAnyH_ready (rs := [4, 5]) (by kernel_rfl) (by simp) ?_
  refine AllReadyH.cons rfl (fun K hK => ?_) (AllReadyH.cons rfl (fun K hK => ?_) AllReadyH.nil)
  · go_simp
    refine hK.out _ _ ?_ (fun hHeld => ?_)
    · exact ⟨rangeAt_below hHeld.1 (below_new (Below.refl _ _) _), rangeAt_below hHeld.2 (below_new (Below.refl _ _) _)⟩
    clear hK K
    try go_simp
    refine wpAnyH_ready (rs := [5]) (by kernel_rfl) (by simp) ?_
    refine AllReadyH.cons rfl (fun K hK => ?_) AllReadyH.nil
    go_simp
    refine hK.out _ _ ?_ (fun hHeld => ?_)
    · exact ⟨rangeAt_below hHeld.1 (below_new (Below.refl _ _) _), rangeAt_below hHeld.2 (below_new (Below.refl _ _) _)⟩
    clear hK K
    try go_simp
    refine wpAnyH_ready (rs := [6]) (by kernel_rfl) (by simp) ?_
    refine AllReadyH.cons rfl (fun K hK => ?_) AllReadyH.nil
    go_simp
    refine hK.out _ _ ?_ (fun hHeld => ?_)
    · exact ⟨rangeAt_below (range_mid [] [.int .i64 6, .int .i64 A, .int .i64 B, .int .i64 0] ([.int .i64 room, .slice (some ⟨ab, ao, none⟩) 2 lc] ++ [.int .i64 v0, .int .i64 v1, .int .i64 v2, .int .i64 v3, .int .i64 v4, .int .i64 v5, .int .i64 v6, .int .i64 v7] ++ [.int .u64 (s : Int)]) (Blk.new w #[.int .i64 6, .int .i64 A, .int .i64 B, .int .i64 0, .int .i64 room, .slice (some ⟨ab, ao, none⟩) 2 lc, .int .i64 v0, .int .i64 v1, .int .i64 v2, .int .i64 v3, .int .i64 v4, .int .i64 v5, .int .i64 v6, .int .i64 v7, .int .u64 (s : Int)] 28).range) (below_drawn (below_new (below_new (Below.refl _ _) _) _)), rangeAt_below (range_mid ([.int .i64 6, .int .i64 A, .int .i64 B, .int .i64 0] ++ [.int .i64 room, .slice (some ⟨ab, ao, none⟩) 2 lc]) [.int .i64 v0, .int .i64 v1, .int .i64 v2, .int .i64 v3, .int .i64 v4, .int .i64 v5, .int .i64 v6, .int .i64 v7] [.int .u64 (s : Int)] (Blk.new w #[.int .i64 6, .int .i64 A, .int .i64 B, .int .i64 0, .int .i64 room, .slice (some ⟨ab, ao, none⟩) 2 lc, .int .i64 v0, .int .i64 v1, .int .i64 v2, .int .i64 v3, .int .i64 v4, .int .i64 v5, .int .i64 v6, .int .i64 v7, .int .u64 (s : Int)] 28).range) (below_drawn (below_new (below_new (Below.refl _ _) _) _))⟩
    clear hK K
    try go_simp
    refine wpAnyH_ready (rs := [7]) (by kernel_rfl) (by simp) ?_
    refine AllReadyH.cons rfl (fun K hK => ?_) AllReadyH.nil
    go_simp
    refine hK.out _ _ ?_ (fun hHeld => ?_)
    · exact ⟨rangeAt_below (range_mid [] [.int .i64 6, .int .i64 A, .int .i64 B, .int .i64 0] ([.int .i64 room, .slice (some ⟨ab, ao, none⟩) 2 lc] ++ [.int .i64 v0, .int .i64 v1, .int .i64 v2, .int .i64 v3, .int .i64 v4, .int .i64 v5, .int .i64 v6, .int .i64 v7] ++ [.int .u64 (s : Int)]) (Blk.new w #[.int .i64 6, .int .i64 A, .int .i64 B, .int .i64 0, .int .i64 room, .slice (some ⟨ab, ao, none⟩) 2 lc, .int .i64 v0, .int .i64 v1, .int .i64 v2, .int .i64 v3, .int .i64 v4, .int .i64 v5, .int .i64 v6, .int .i64 v7, .int .u64 (s : Int)] 28).range) (below_drawn (below_new (below_new (Below.refl _ _) _) _)), rangeAt_below (range_mid ([.int .i64 6, .int .i64 A, .int .i64 B, .int .i64 0] ++ [.int .i64 room, .slice (some ⟨ab, ao, none⟩) 2 lc]) [.int .i64 v0, .int .i64 v1, .int .i64 v2, .int .i64 v3, .int .i64 v4, .int .i64 v5, .int .i64 v6, .int .i64 v7] [.int .u64 (s : Int)] (Blk.new w #[.int .i64 6, .int .i64 A, .int .i64 B, .int .i64 0, .int .i64 room, .slice (some ⟨ab, ao, none⟩) 2 lc, .int .i64 v0, .int .i64 v1, .int .i64 v2, .int .i64 v3, .int .i64 v4, .int .i64 v5, .int .i64 v6, .int .i64 v7, .int .u64 (s : Int)] 28).range) (below_drawn (below_new (below_new (Below.refl _ _) _) _))⟩
    clear hK K
    try go_simp
    refine wpAnyH_done (by kernel_rfl) ?_ _
    go_wp2
    by_cases h0 : 0 ≤ v0 ∧ v0 ≤ 15
    rotate_left
    · have hb0 := fun V => between_any v0 0 15 V
      simp only [show decide (0 ≤ v0 ∧ v0 ≤ 15) = false from decide_eq_false h0] at hb0
      have HB0 := Lib.hid hb0
      clear hb0
      go_quiet ((go_at_call 37; exact quiet_more (HB0.out _)))
      go_wp2
      go_ret
      exact ⟨⟨false, rfl, ⟨(fun h => by cases h), (fun h => absurd h.h0 h0)⟩⟩, by repeat (first | exact Below.refl _ _ | refine below_drawnN ?_ _ | refine below_drawn ?_ | refine below_new ?_ _)⟩
    have hb0 := fun V => between_any v0 0 15 V
    simp only [show decide (0 ≤ v0 ∧ v0 ≤ 15) = true from decide_eq_true h0] at hb0
    have HB0 := Lib.hid hb0
    clear hb0
    by_cases h7 : 0 ≤ v7 ∧ v7 ≤ 10000000
    rotate_left
    · have hb7 := fun V => isTime_any v7 V
      simp only [show decide (0 ≤ v7 ∧ v7 ≤ 10000000) = false from decide_eq_false h7] at hb7
      have HB7 := Lib.hid hb7
      clear hb7
      go_quiet ((first | (go_at_call 37; exact quiet_more (HB0.out _)) | (go_at_call 38; exact quiet_more (HB7.out _))))
      go_wp2
      go_ret
      exact ⟨⟨false, rfl, ⟨(fun h => by cases h), (fun h => absurd h.h7 h7)⟩⟩, by repeat (first | exact Below.refl _ _ | refine below_drawnN ?_ _ | refine below_drawn ?_ | refine below_new ?_ _)⟩
    have hb7 := fun V => isTime_any v7 V
    simp only [show decide (0 ≤ v7 ∧ v7 ≤ 10000000) = true from decide_eq_true h7] at hb7
    have HB7 := Lib.hid hb7
    clear hb7
    by_cases hlen : (n1 : Int) + n2 ≤ room
    rotate_left
    · have hW : IntKind.i64.wrap ((n1 : Int) + (n2 : Int)) = (n1 : Int) + (n2 : Int) := by rw [IntKind.wrap_i64]; omega
      have dl : decide (room < (n1 : Int) + (n2 : Int)) = true := decide_eq_true (by omega)
      go_quiet ((first | (go_at_call 37; exact quiet_more (HB0.out _)) | (go_at_call 38; exact quiet_more (HB7.out _))))
      go_wp2
      go_ret
      exact ⟨⟨false, rfl, ⟨(fun h => by cases h), (fun h => absurd h.len (by omega))⟩⟩, by repeat (first | exact Below.refl _ _ | refine below_drawnN ?_ _ | refine below_drawn ?_ | refine below_new ?_ _)⟩
    have hW : IntKind.i64.wrap ((n1 : Int) + (n2 : Int)) = (n1 : Int) + (n2 : Int) := by rw [IntKind.wrap_i64]; omega
    have dl : decide (room < (n1 : Int) + (n2 : Int)) = false := decide_eq_false (by omega)
    go_quiet ((first | (go_at_call 37; exact quiet_more (HB0.out _)) | (go_at_call 38; exact quiet_more (HB7.out _))))
    clear hW dl
    go_wp2
    refine wp_loop_rounds 7 ?_
    rw [rounds_succ]
    by_cases e1 : v1 = 0
    rotate_left
    · go_wp2
      go_ret
      exact ⟨⟨false, rfl, ⟨(fun h => by cases h), (fun h => absurd h.z1 e1)⟩⟩, by repeat (first | exact Below.refl _ _ | refine below_drawnN ?_ _ | refine below_drawn ?_ | refine below_new ?_ _)⟩
    subst e1
    go_wp2
    rw [rounds_succ]
    by_cases e2 : v2 = 0
    rotate_left
    · go_wp2
      go_ret
      exact ⟨⟨false, rfl, ⟨(fun h => by cases h), (fun h => absurd h.z2 e2)⟩⟩, by repeat (first | exact Below.refl _ _ | refine below_drawnN ?_ _ | refine below_drawn ?_ | refine below_new ?_ _)⟩
    subst e2
    go_wp2
    rw [rounds_succ]
    by_cases e3 : v3 = 0
    rotate_left
    · go_wp2
      go_ret
      exact ⟨⟨false, rfl, ⟨(fun h => by cases h), (fun h => absurd h.z3 e3)⟩⟩, by repeat (first | exact Below.refl _ _ | refine below_drawnN ?_ _ | refine below_drawn ?_ | refine below_new ?_ _)⟩
    subst e3
    go_wp2
    rw [rounds_succ]
    by_cases e4 : v4 = 0
    rotate_left
    · go_wp2
      go_ret
      exact ⟨⟨false, rfl, ⟨(fun h => by cases h), (fun h => absurd h.z4 e4)⟩⟩, by repeat (first | exact Below.refl _ _ | refine below_drawnN ?_ _ | refine below_drawn ?_ | refine below_new ?_ _)⟩
    subst e4
    go_wp2
    rw [rounds_succ]
    by_cases e5 : v5 = 0
    rotate_left
    · go_wp2
      go_ret
      exact ⟨⟨false, rfl, ⟨(fun h => by cases h), (fun h => absurd h.z5 e5)⟩⟩, by repeat (first | exact Below.refl _ _ | refine below_drawnN ?_ _ | refine below_drawn ?_ | refine below_new ?_ _)⟩
    subst e5
    go_wp2
    rw [rounds_succ]
    by_cases e6 : v6 = 0
    rotate_left
    · go_wp2
      go_ret
      exact ⟨⟨false, rfl, ⟨(fun h => by cases h), (fun h => absurd h.z6 e6)⟩⟩, by repeat (first | exact Below.refl _ _ | refine below_drawnN ?_ _ | refine below_drawn ?_ | refine below_new ?_ _)⟩
    subst e6
    go_wp2
    rw [rounds_succ]
    go_wp2
    by_cases hL1 : ListD xs v7 true
    rotate_left
    · have HL1 := Lib.hid hL1
      clear hL1
      refine wp_region_held_drew (S := (fun V => V.cell? ⟨w.heap.size, 5, none⟩ = some (.slice (some ⟨ab, ao, none⟩) 2 lc) ∧ V.cell? ⟨w.heap.size + 1 + 1, 7, none⟩ = some (.int .i64 v7) ∧ V.cell? ⟨ab, ao, none⟩ = some (.slice a1 n1 c1) ∧ V.cell? ⟨ab, ao + 1, none⟩ = some (.slice a2 n2 c2))) (by kernel_rfl) ?_ (fun hHeld => ?_)
      · exact ⟨by go_simp, by go_simp, below_cell_of (by repeat (first | exact Below.refl _ _ | refine below_drawnN ?_ _ | refine below_drawn ?_ | refine below_new ?_ _)) hc1, below_cell_of (by repeat (first | exact Below.refl _ _ | refine below_drawnN ?_ _ | refine below_drawn ?_ | refine below_new ?_ _)) hc2⟩
      refine wpAnyH_take (i := 0) (v := ?_) rfl (by kernel_rfl) (by kernel_rfl) (by kernel_rfl) (fun _ _ _ h => h) (Or.inl ⟨by rfl, ?_⟩) hHeld ?_
      rotate_left
      · intro wS hSw; obtain ⟨hS0, hS1, hS2, hS3⟩ := hSw; go_simp; try with_reducible rfl
      try go_simp
      refine wpAnyH_take (i := 1) (v := ?_) rfl (by kernel_rfl) (by kernel_rfl) (by kernel_rfl) (fun _ _ _ h => h) (Or.inl ⟨by rfl, ?_⟩) hHeld ?_
      rotate_left
      · intro wS hSw; obtain ⟨hS0, hS1, hS2, hS3⟩ := hSw; go_simp; try with_reducible rfl
      try go_simp
      refine wpAnyH_take (i := 2) (v := ?_) rfl (by kernel_rfl) (by kernel_rfl) (by kernel_rfl) (fun _ _ _ h => h) (Or.inl ⟨by rfl, ?_⟩) hHeld ?_
      rotate_left
      · intro wS hSw; obtain ⟨hS0, hS1, hS2, hS3⟩ := hSw; go_simp; try with_reducible rfl
      try go_simp
      refine wpAnyH_take (i := 3) (v := ?_) rfl (by kernel_rfl) (by kernel_rfl) (by kernel_rfl) (fun _ _ _ h => h) (Or.inl ⟨by rfl, ?_⟩) hHeld ?_
      rotate_left
      · intro wS hSw; obtain ⟨hS0, hS1, hS2, hS3⟩ := hSw; go_simp; try with_reducible rfl
      try go_simp
      refine wpAnyH_take (i := 4) (v := ?_) rfl (by kernel_rfl) (by kernel_rfl) (by kernel_rfl) (fun _ _ _ h => h) (Or.inl ⟨by rfl, ?_⟩) hHeld ?_
      rotate_left
      · intro wS hSw; obtain ⟨hS0, hS1, hS2, hS3⟩ := hSw; go_simp; try with_reducible rfl
      try go_simp
      refine wpAnyH_take (i := 5) (v := ?_) rfl (by kernel_rfl) (by kernel_rfl) (by kernel_rfl) (fun _ _ _ h => h) (Or.inl ⟨by rfl, ?_⟩) hHeld ?_
      rotate_left
      · intro wS hSw; obtain ⟨hS0, hS1, hS2, hS3⟩ := hSw; go_simp; try with_reducible rfl
      try go_simp
      refine wpAnyH_ready (rs := [6]) (by kernel_rfl) (by simp) ?_
      refine AllReadyH.cons rfl (fun K hK => ?_) AllReadyH.nil
      go_simp
      refine (isList_any a1 n1 c1 xs v7 true _ (HR1.out.below (by repeat (first | exact Below.refl _ _ | refine below_drawnN ?_ _ | refine below_drawn ?_ | refine below_new ?_ _))) (by omega)).mono ?_
      rintro e w5 ⟨⟨b1, rfl, hb1⟩, hb⟩
      obtain rfl : b1 = false := by cases b1 with | false => rfl | true => exact absurd (hb1.1 rfl) HL1.out
      have HB5 : RowKit.Hid (Below w.heap.size w w5) := Lib.hid (below_on (by repeat (first | exact Below.refl _ _ | refine below_drawnN ?_ _ | refine below_drawn ?_ | refine below_new ?_ _)) hb)
      clear hb1
      refine hK.out _ _ ?_ ?_
      · exact ⟨below_cell_of hb hHeld.1, below_cell_of hb hHeld.2.1, below_cell_of hb hHeld.2.2.1, below_cell_of hb hHeld.2.2.2⟩
      clear hK K hHeld hb
      intro hHeld
      try go_simp
      refine wpAnyH_take (i := 7) (v := ?_) rfl (by kernel_rfl) (by kernel_rfl) (by kernel_rfl) (fun _ _ _ h => h) (Or.inl ⟨by rfl, ?_⟩) hHeld ?_
      rotate_left
      · intro wS hSw; obtain ⟨hS0, hS1, hS2, hS3⟩ := hSw; go_simp; try with_reducible rfl
      try go_simp
      refine wpAnyH_take (i := 8) (v := undef) rfl (by kernel_rfl) (by kernel_rfl) (by kernel_rfl) (fun _ _ _ h => h) (Or.inr ⟨by rfl, rfl⟩) hHeld ?_
      try go_simp
      refine wpAnyH_take (i := 9) (v := undef) rfl (by kernel_rfl) (by kernel_rfl) (by kernel_rfl) (fun _ _ _ h => h) (Or.inr ⟨by rfl, rfl⟩) hHeld ?_
      try go_simp
      refine wpAnyH_take (i := 10) (v := undef) rfl (by kernel_rfl) (by kernel_rfl) (by kernel_rfl) (fun _ _ _ h => h) (Or.inr ⟨by rfl, rfl⟩) hHeld ?_
      try go_simp
      refine wpAnyH_take (i := 11) (v := undef) rfl (by kernel_rfl) (by kernel_rfl) (by kernel_rfl) (fun _ _ _ h => h) (Or.inr ⟨by rfl, rfl⟩) hHeld ?_
      try go_simp
      refine wpAnyH_take (i := 12) (v := undef) rfl (by kernel_rfl) (by kernel_rfl) (by kernel_rfl) (fun _ _ _ h => h) (Or.inr ⟨by rfl, rfl⟩) hHeld ?_
      try go_simp
      refine wpAnyH_take (i := 13) (v := undef) rfl (by kernel_rfl) (by kernel_rfl) (by kernel_rfl) (fun _ _ _ h => h) (Or.inr ⟨by rfl, rfl⟩) hHeld ?_
      try go_simp
      refine wpAnyH_take (i := 14) (v := undef) rfl (by kernel_rfl) (by kernel_rfl) (by kernel_rfl) (fun _ _ _ h => h) (Or.inr ⟨by rfl, rfl⟩) hHeld ?_
      try go_simp
      refine wpAnyH_take (i := 15) (v := ?_) rfl (by kernel_rfl) (by kernel_rfl) (by kernel_rfl) (fun _ _ _ h => h) (Or.inl ⟨by rfl, ?_⟩) hHeld ?_
      rotate_left
      · intro wS hSw; obtain ⟨hS0, hS1, hS2, hS3⟩ := hSw; go_simp; try with_reducible rfl
      try go_simp
      refine wpAnyH_take (i := 16) (v := ?_) rfl (by kernel_rfl) (by kernel_rfl) (by kernel_rfl) (fun _ _ _ h => h) (Or.inl ⟨by rfl, ?_⟩) hHeld ?_
      rotate_left
      · intro wS hSw; obtain ⟨hS0, hS1, hS2, hS3⟩ := hSw; go_simp; try with_reducible rfl
      try go_simp
      refine wpAnyH_done (by kernel_rfl) ?_ _
      go_wp2
      go_ret
      exact ⟨⟨false, rfl, ⟨(fun h => by cases h), (fun h => absurd h.l1 HL1.out)⟩⟩, below_drawnN HB5.out 0⟩
    have HL1 := Lib.hid hL1
    clear hL1
    by_cases hL2 : ListD ys v7 false
    rotate_left
    · have HL2 := Lib.hid hL2
      clear hL2
      refine wp_region_held_drew (S := (fun V => V.cell? ⟨w.heap.size, 5, none⟩ = some (.slice (some ⟨ab, ao, none⟩) 2 lc) ∧ V.cell? ⟨w.heap.size + 1 + 1, 7, none⟩ = some (.int .i64 v7) ∧ V.cell? ⟨ab, ao, none⟩ = some (.slice a1 n1 c1) ∧ V.cell? ⟨ab, ao + 1, none⟩ = some (.slice a2 n2 c2))) (by kernel_rfl) ?_ (fun hHeld => ?_)
      · exact ⟨by go_simp, by go_simp, below_cell_of (by repeat (first | exact Below.refl _ _ | refine below_drawnN ?_ _ | refine below_drawn ?_ | refine below_new ?_ _)) hc1, below_cell_of (by repeat (first | exact Below.refl _ _ | refine below_drawnN ?_ _ | refine below_drawn ?_ | refine below_new ?_ _)) hc2⟩
      refine wpAnyH_take (i := 0) (v := ?_) rfl (by kernel_rfl) (by kernel_rfl) (by kernel_rfl) (fun _ _ _ h => h) (Or.inl ⟨by rfl, ?_⟩) hHeld ?_
      rotate_left
      · intro wS hSw; obtain ⟨hS0, hS1, hS2, hS3⟩ := hSw; go_simp; try with_reducible rfl
      try go_simp
      refine wpAnyH_take (i := 1) (v := ?_) rfl (by kernel_rfl) (by kernel_rfl) (by kernel_rfl) (fun _ _ _ h => h) (Or.inl ⟨by rfl, ?_⟩) hHeld ?_
      rotate_left
      · intro wS hSw; obtain ⟨hS0, hS1, hS2, hS3⟩ := hSw; go_simp; try with_reducible rfl
      try go_simp
      refine wpAnyH_take (i := 2) (v := ?_) rfl (by kernel_rfl) (by kernel_rfl) (by kernel_rfl) (fun _ _ _ h => h) (Or.inl ⟨by rfl, ?_⟩) hHeld ?_
      rotate_left
      · intro wS hSw; obtain ⟨hS0, hS1, hS2, hS3⟩ := hSw; go_simp; try with_reducible rfl
      try go_simp
      refine wpAnyH_take (i := 3) (v := ?_) rfl (by kernel_rfl) (by kernel_rfl) (by kernel_rfl) (fun _ _ _ h => h) (Or.inl ⟨by rfl, ?_⟩) hHeld ?_
      rotate_left
      · intro wS hSw; obtain ⟨hS0, hS1, hS2, hS3⟩ := hSw; go_simp; try with_reducible rfl
      try go_simp
      refine wpAnyH_take (i := 4) (v := ?_) rfl (by kernel_rfl) (by kernel_rfl) (by kernel_rfl) (fun _ _ _ h => h) (Or.inl ⟨by rfl, ?_⟩) hHeld ?_
      rotate_left
      · intro wS hSw; obtain ⟨hS0, hS1, hS2, hS3⟩ := hSw; go_simp; try with_reducible rfl
      try go_simp
      refine wpAnyH_take (i := 5) (v := ?_) rfl (by kernel_rfl) (by kernel_rfl) (by kernel_rfl) (fun _ _ _ h => h) (Or.inl ⟨by rfl, ?_⟩) hHeld ?_
      rotate_left
      · intro wS hSw; obtain ⟨hS0, hS1, hS2, hS3⟩ := hSw; go_simp; try with_reducible rfl
      try go_simp
      refine wpAnyH_ready (rs := [6]) (by kernel_rfl) (by simp) ?_
      refine AllReadyH.cons rfl (fun K hK => ?_) AllReadyH.nil
      go_simp
      refine (isList_any a1 n1 c1 xs v7 true _ (HR1.out.below (by repeat (first | exact Below.refl _ _ | refine below_drawnN ?_ _ | refine below_drawn ?_ | refine below_new ?_ _))) (by omega)).mono ?_
      rintro e w5 ⟨⟨b1, rfl, hb1⟩, hb⟩
      obtain rfl : b1 = true := hb1.2 HL1.out
      have HB5 : RowKit.Hid (Below w.heap.size w w5) := Lib.hid (below_on (by repeat (first | exact Below.refl _ _ | refine below_drawnN ?_ _ | refine below_drawn ?_ | refine below_new ?_ _)) hb)
      clear hb1
      refine hK.out _ _ ?_ ?_
      · exact ⟨below_cell_of hb hHeld.1, below_cell_of hb hHeld.2.1, below_cell_of hb hHeld.2.2.1, below_cell_of hb hHeld.2.2.2⟩
      clear hK K hHeld hb
      intro hHeld
      try go_simp
      refine wpAnyH_take (i := 7) (v := ?_) rfl (by kernel_rfl) (by kernel_rfl) (by kernel_rfl) (fun _ _ _ h => h) (Or.inl ⟨by rfl, ?_⟩) hHeld ?_
      rotate_left
      · intro wS hSw; obtain ⟨hS0, hS1, hS2, hS3⟩ := hSw; go_simp; try with_reducible rfl
      try go_simp
      refine wpAnyH_take (i := 8) (v := ?_) rfl (by kernel_rfl) (by kernel_rfl) (by kernel_rfl) (fun _ _ _ h => h) (Or.inl ⟨by rfl, ?_⟩) hHeld ?_
      rotate_left
      · intro wS hSw; obtain ⟨hS0, hS1, hS2, hS3⟩ := hSw; go_simp; try with_reducible rfl
      try go_simp
      refine wpAnyH_take (i := 9) (v := ?_) rfl (by kernel_rfl) (by kernel_rfl) (by kernel_rfl) (fun _ _ _ h => h) (Or.inl ⟨by rfl, ?_⟩) hHeld ?_
      rotate_left
      · intro wS hSw; obtain ⟨hS0, hS1, hS2, hS3⟩ := hSw; go_simp; try with_reducible rfl
      try go_simp
      refine wpAnyH_take (i := 10) (v := ?_) rfl (by kernel_rfl) (by kernel_rfl) (by kernel_rfl) (fun _ _ _ h => h) (Or.inl ⟨by rfl, ?_⟩) hHeld ?_
      rotate_left
      · intro wS hSw; obtain ⟨hS0, hS1, hS2, hS3⟩ := hSw; go_simp; try with_reducible rfl
      try go_simp
      refine wpAnyH_take (i := 11) (v := ?_) rfl (by kernel_rfl) (by kernel_rfl) (by kernel_rfl) (fun _ _ _ h => h) (Or.inl ⟨by rfl, ?_⟩) hHeld ?_
      rotate_left
      · intro wS hSw; obtain ⟨hS0, hS1, hS2, hS3⟩ := hSw; go_simp; try with_reducible rfl
      try go_simp
      refine wpAnyH_take (i := 12) (v := ?_) rfl (by kernel_rfl) (by kernel_rfl) (by kernel_rfl) (fun _ _ _ h => h) (Or.inl ⟨by rfl, ?_⟩) hHeld ?_
      rotate_left
      · intro wS hSw; obtain ⟨hS0, hS1, hS2, hS3⟩ := hSw; go_simp; try with_reducible rfl
      try go_simp
      refine wpAnyH_take (i := 13) (v := ?_) rfl (by kernel_rfl) (by kernel_rfl) (by kernel_rfl) (fun _ _ _ h => h) (Or.inl ⟨by rfl, ?_⟩) hHeld ?_
      rotate_left
      · intro wS hSw; obtain ⟨hS0, hS1, hS2, hS3⟩ := hSw; go_simp; try with_reducible rfl
      try go_simp
      refine wpAnyH_ready (rs := [14]) (by kernel_rfl) (by simp) ?_
      refine AllReadyH.cons rfl (fun K hK => ?_) AllReadyH.nil
      go_simp
      refine (isList_any a2 n2 c2 ys v7 false _ (HR2.out.below HB5.out) (by omega)).mono ?_
      rintro e w6 ⟨⟨b2, rfl, hb2⟩, hb⟩
      obtain rfl : b2 = false := by cases b2 with | false => rfl | true => exact absurd (hb2.1 rfl) HL2.out
      have HB6 : RowKit.Hid (Below w.heap.size w w6) := Lib.hid (below_on HB5.out hb)
      clear hb2
      refine hK.out _ _ ?_ ?_
      · exact ⟨below_cell_of hb hHeld.1, below_cell_of hb hHeld.2.1, below_cell_of hb hHeld.2.2.1, below_cell_of hb hHeld.2.2.2⟩
      clear hK K hHeld hb
      intro hHeld
      try go_simp
      refine wpAnyH_take (i := 15) (v := ?_) rfl (by kernel_rfl) (by kernel_rfl) (by kernel_rfl) (fun _ _ _ h => h) (Or.inl ⟨by rfl, ?_⟩) hHeld ?_
      rotate_left
      · intro wS hSw; obtain ⟨hS0, hS1, hS2, hS3⟩ := hSw; go_simp; try with_reducible rfl
      try go_simp
      refine wpAnyH_take (i := 16) (v := ?_) rfl (by kernel_rfl) (by kernel_rfl) (by kernel_rfl) (fun _ _ _ h => h) (Or.inl ⟨by rfl, ?_⟩) hHeld ?_
      rotate_left
      · intro wS hSw; obtain ⟨hS0, hS1, hS2, hS3⟩ := hSw; go_simp; try with_reducible rfl
      try go_simp
      refine wpAnyH_done (by kernel_rfl) ?_ _
      go_wp2
      go_ret
      exact ⟨⟨false, rfl, ⟨(fun h => by cases h), (fun h => absurd h.l2 HL2.out)⟩⟩, below_drawnN HB6.out 0⟩
    have HL2 := Lib.hid hL2
    clear hL2
    refine wp_region_held_drew (S := (fun V => V.cell? ⟨w.heap.size, 5, none⟩ = some (.slice (some ⟨ab, ao, none⟩) 2 lc) ∧ V.cell? ⟨w.heap.size + 1 + 1, 7, none⟩ = some (.int .i64 v7) ∧ V.cell? ⟨ab, ao, none⟩ = some (.slice a1 n1 c1) ∧ V.cell? ⟨ab, ao + 1, none⟩ = some (.slice a2 n2 c2))) (by kernel_rfl) ?_ (fun hHeld => ?_)
    · exact ⟨by go_simp, by go_simp, below_cell_of (by repeat (first | exact Below.refl _ _ | refine below_drawnN ?_ _ | refine below_drawn ?_ | refine below_new ?_ _)) hc1, below_cell_of (by repeat (first | exact Below.refl _ _ | refine below_drawnN ?_ _ | refine below_drawn ?_ | refine below_new ?_ _)) hc2⟩
    refine wpAnyH_take (i := 0) (v := ?_) rfl (by kernel_rfl) (by kernel_rfl) (by kernel_rfl) (fun _ _ _ h => h) (Or.inl ⟨by rfl, ?_⟩) hHeld ?_
    rotate_left
    · intro wS hSw; obtain ⟨hS0, hS1, hS2, hS3⟩ := hSw; go_simp; try with_reducible rfl
    try go_simp
    refine wpAnyH_take (i := 1) (v := ?_) rfl (by kernel_rfl) (by kernel_rfl) (by kernel_rfl) (fun _ _ _ h => h) (Or.inl ⟨by rfl, ?_⟩) hHeld ?_
    rotate_left
    · intro wS hSw; obtain ⟨hS0, hS1, hS2, hS3⟩ := hSw; go_simp; try with_reducible rfl
    try go_simp
    refine wpAnyH_take (i := 2) (v := ?_) rfl (by kernel_rfl) (by kernel_rfl) (by kernel_rfl) (fun _ _ _ h => h) (Or.inl ⟨by rfl, ?_⟩) hHeld ?_
    rotate_left
    · intro wS hSw; obtain ⟨hS0, hS1, hS2, hS3⟩ := hSw; go_simp; try with_reducible rfl
    try go_simp
    refine wpAnyH_take (i := 3) (v := ?_) rfl (by kernel_rfl) (by kernel_rfl) (by kernel_rfl) (fun _ _ _ h => h) (Or.inl ⟨by rfl, ?_⟩) hHeld ?_
    rotate_left
    · intro wS hSw; obtain ⟨hS0, hS1, hS2, hS3⟩ := hSw; go_simp; try with_reducible rfl
    try go_simp
    refine wpAnyH_take (i := 4) (v := ?_) rfl (by kernel_rfl) (by kernel_rfl) (by kernel_rfl) (fun _ _ _ h => h) (Or.inl ⟨by rfl, ?_⟩) hHeld ?_
    rotate_left
    · intro wS hSw; obtain ⟨hS0, hS1, hS2, hS3⟩ := hSw; go_simp; try with_reducible rfl
    try go_simp
    refine wpAnyH_take (i := 5) (v := ?_) rfl (by kernel_rfl) (by kernel_rfl) (by kernel_rfl) (fun _ _ _ h => h) (Or.inl ⟨by rfl, ?_⟩) hHeld ?_
    rotate_left
    · intro wS hSw; obtain ⟨hS0, hS1, hS2, hS3⟩ := hSw; go_simp; try with_reducible rfl
    try go_simp
    refine wpAnyH_ready (rs := [6]) (by kernel_rfl) (by simp) ?_
    refine AllReadyH.cons rfl (fun K hK => ?_) AllReadyH.nil
    go_simp
    refine (isList_any a1 n1 c1 xs v7 true _ (HR1.out.below (by repeat (first | exact Below.refl _ _ | refine below_drawnN ?_ _ | refine below_drawn ?_ | refine below_new ?_ _))) (by omega)).mono ?_
    rintro e w5 ⟨⟨b1, rfl, hb1⟩, hb⟩
    obtain rfl : b1 = true := hb1.2 HL1.out
    have HB5 : RowKit.Hid (Below w.heap.size w w5) := Lib.hid (below_on (by repeat (first | exact Below.refl _ _ | refine below_drawnN ?_ _ | refine below_drawn ?_ | refine below_new ?_ _)) hb)
    clear hb1
    refine hK.out _ _ ?_ ?_
    · exact ⟨below_cell_of hb hHeld.1, below_cell_of hb hHeld.2.1, below_cell_of hb hHeld.2.2.1, below_cell_of hb hHeld.2.2.2⟩
    clear hK K hHeld hb
    intro hHeld
    try go_simp
    refine wpAnyH_take (i := 7) (v := ?_) rfl (by kernel_rfl) (by kernel_rfl) (by kernel_rfl) (fun _ _ _ h => h) (Or.inl ⟨by rfl, ?_⟩) hHeld ?_
    rotate_left
    · intro wS hSw; obtain ⟨hS0, hS1, hS2, hS3⟩ := hSw; go_simp; try with_reducible rfl
    try go_simp
    refine wpAnyH_take (i := 8) (v := ?_) rfl (by kernel_rfl) (by kernel_rfl) (by kernel_rfl) (fun _ _ _ h => h) (Or.inl ⟨by rfl, ?_⟩) hHeld ?_
    rotate_left
    · intro wS hSw; obtain ⟨hS0, hS1, hS2, hS3⟩ := hSw; go_simp; try with_reducible rfl
    try go_simp
    refine wpAnyH_take (i := 9) (v := ?_) rfl (by kernel_rfl) (by kernel_rfl) (by kernel_rfl) (fun _ _ _ h => h) (Or.inl ⟨by rfl, ?_⟩) hHeld ?_
    rotate_left
    · intro wS hSw; obtain ⟨hS0, hS1, hS2, hS3⟩ := hSw; go_simp; try with_reducible rfl
    try go_simp
    refine wpAnyH_take (i := 10) (v := ?_) rfl (by kernel_rfl) (by kernel_rfl) (by kernel_rfl) (fun _ _ _ h => h) (Or.inl ⟨by rfl, ?_⟩) hHeld ?_
    rotate_left
    · intro wS hSw; obtain ⟨hS0, hS1, hS2, hS3⟩ := hSw; go_simp; try with_reducible rfl
    try go_simp
    refine wpAnyH_take (i := 11) (v := ?_) rfl (by kernel_rfl) (by kernel_rfl) (by kernel_rfl) (fun _ _ _ h => h) (Or.inl ⟨by rfl, ?_⟩) hHeld ?_
    rotate_left
    · intro wS hSw; obtain ⟨hS0, hS1, hS2, hS3⟩ := hSw; go_simp; try with_reducible rfl
    try go_simp
    refine wpAnyH_take (i := 12) (v := ?_) rfl (by kernel_rfl) (by kernel_rfl) (by kernel_rfl) (fun _ _ _ h => h) (Or.inl ⟨by rfl, ?_⟩) hHeld ?_
    rotate_left
    · intro wS hSw; obtain ⟨hS0, hS1, hS2, hS3⟩ := hSw; go_simp; try with_reducible rfl
    try go_simp
    refine wpAnyH_take (i := 13) (v := ?_) rfl (by kernel_rfl) (by kernel_rfl) (by kernel_rfl) (fun _ _ _ h => h) (Or.inl ⟨by rfl, ?_⟩) hHeld ?_
    rotate_left
    · intro wS hSw; obtain ⟨hS0, hS1, hS2, hS3⟩ := hSw; go_simp; try with_reducible rfl
    try go_simp
    refine wpAnyH_ready (rs := [14]) (by kernel_rfl) (by simp) ?_
    refine AllReadyH.cons rfl (fun K hK => ?_) AllReadyH.nil
    go_simp
    refine (isList_any a2 n2 c2 ys v7 false _ (HR2.out.below HB5.out) (by omega)).mono ?_
    rintro e w6 ⟨⟨b2, rfl, hb2⟩, hb⟩
    obtain rfl : b2 = true := hb2.2 HL2.out
    have HB6 : RowKit.Hid (Below w.heap.size w w6) := Lib.hid (below_on HB5.out hb)
    clear hb2
    refine hK.out _ _ ?_ ?_
    · exact ⟨below_cell_of hb hHeld.1, below_cell_of hb hHeld.2.1, below_cell_of hb hHeld.2.2.1, below_cell_of hb hHeld.2.2.2⟩
    clear hK K hHeld hb
    intro hHeld
    try go_simp
    refine wpAnyH_take (i := 15) (v := ?_) rfl (by kernel_rfl) (by kernel_rfl) (by kernel_rfl) (fun _ _ _ h => h) (Or.inl ⟨by rfl, ?_⟩) hHeld ?_
    rotate_left
    · intro wS hSw; obtain ⟨hS0, hS1, hS2, hS3⟩ := hSw; go_simp; try with_reducible rfl
    try go_simp
    refine wpAnyH_take (i := 16) (v := ?_) rfl (by kernel_rfl) (by kernel_rfl) (by kernel_rfl) (fun _ _ _ h => h) (Or.inl ⟨by rfl, ?_⟩) hHeld ?_
    rotate_left
    · intro wS hSw; obtain ⟨hS0, hS1, hS2, hS3⟩ := hSw; go_simp; try with_reducible rfl
    try go_simp
    refine wpAnyH_done (by kernel_rfl) ?_ _
    go_wp2
    go_ret
    exact ⟨⟨true, rfl, ⟨fun _ => ⟨rfl, rfl, rfl, rfl, rfl, rfl, h0, h7, hlen, HL1.out, HL2.out⟩, fun _ => rfl⟩⟩, below_drawnN HB6.out 0⟩
  · go_simp
    refine hK.out _ _ ?_ (fun hHeld => ?_)
    · exact ⟨rangeAt_below hHeld.1 (below_new (Below.refl _ _) _), rangeAt_below hHeld.2 (below_new (Below.refl _ _) _)⟩
    clear hK K
    try go_simp
    refine wpAnyH_ready (rs := [4]) (by kernel_rfl) (by simp) ?_
    refine AllReadyH.cons rfl (fun K hK => ?_) AllReadyH.nil
    go_simp
    refine hK.out _ _ ?_ (fun hHeld => ?_)
    · exact ⟨rangeAt_below hHeld.1 (below_new (Below.refl _ _) _), rangeAt_below hHeld.2 (below_new (Below.refl _ _) _)⟩
    clear hK K
    try go_simp
    refine wpAnyH_ready (rs := [6]) (by kernel_rfl) (by simp) ?_
    refine AllReadyH.cons rfl (fun K hK => ?_) AllReadyH.nil
    go_simp
    refine hK.out _ _ ?_ (fun hHeld => ?_)
    · exact ⟨rangeAt_below (range_mid [] [.int .i64 6, .int .i64 A, .int .i64 B, .int .i64 0] ([.int .i64 room, .slice (some ⟨ab, ao, none⟩) 2 lc] ++ [.int .i64 v0, .int .i64 v1, .int .i64 v2, .int .i64 v3, .int .i64 v4, .int .i64 v5, .int .i64 v6, .int .i64 v7] ++ [.int .u64 (s : Int)]) (Blk.new w #[.int .i64 6, .int .i64 A, .int .i64 B, .int .i64 0, .int .i64 room, .slice (some ⟨ab, ao, none⟩) 2 lc, .int .i64 v0, .int .i64 v1, .int .i64 v2, .int .i64 v3, .int .i64 v4, .int .i64 v5, .int .i64 v6, .int .i64 v7, .int .u64 (s : Int)] 28).range) (below_drawn (below_new (below_new (Below.refl _ _) _) _)), rangeAt_below (range_mid ([.int .i64 6, .int .i64 A, .int .i64 B, .int .i64 0] ++ [.int .i64 room, .slice (some ⟨ab, ao, none⟩) 2 lc]) [.int .i64 v0, .int .i64 v1, .int .i64 v2, .int .i64 v3, .int .i64 v4, .int .i64 v5, .int .i64 v6, .int .i64 v7] [.int .u64 (s : Int)] (Blk.new w #[.int .i64 6, .int .i64 A, .int .i64 B, .int .i64 0, .int .i64 room, .slice (some ⟨ab, ao, none⟩) 2 lc, .int .i64 v0, .int .i64 v1, .int .i64 v2, .int .i64 v3, .int .i64 v4, .int .i64 v5, .int .i64 v6, .int .i64 v7, .int .u64 (s : Int)] 28).range) (below_drawn (below_new (below_new (Below.refl _ _) _) _))⟩
    clear hK K
    try go_simp
    refine wpAnyH_ready (rs := [7]) (by kernel_rfl) (by simp) ?_
    refine AllReadyH.cons rfl (fun K hK => ?_) AllReadyH.nil
    go_simp
    refine hK.out _ _ ?_ (fun hHeld => ?_)
    · exact ⟨rangeAt_below (range_mid [] [.int .i64 6, .int .i64 A, .int .i64 B, .int .i64 0] ([.int .i64 room, .slice (some ⟨ab, ao, none⟩) 2 lc] ++ [.int .i64 v0, .int .i64 v1, .int .i64 v2, .int .i64 v3, .int .i64 v4, .int .i64 v5, .int .i64 v6, .int .i64 v7] ++ [.int .u64 (s : Int)]) (Blk.new w #[.int .i64 6, .int .i64 A, .int .i64 B, .int .i64 0, .int .i64 room, .slice (some ⟨ab, ao, none⟩) 2 lc, .int .i64 v0, .int .i64 v1, .int .i64 v2, .int .i64 v3, .int .i64 v4, .int .i64 v5, .int .i64 v6, .int .i64 v7, .int .u64 (s : Int)] 28).range) (below_drawn (below_new (below_new (Below.refl _ _) _) _)), rangeAt_below (range_mid ([.int .i64 6, .int .i64 A, .int .i64 B, .int .i64 0] ++ [.int .i64 room, .slice (some ⟨ab, ao, none⟩) 2 lc]) [.int .i64 v0, .int .i64 v1, .int .i64 v2, .int .i64 v3, .int .i64 v4, .int .i64 v5, .int .i64 v6, .int .i64 v7] [.int .u64 (s : Int)] (Blk.new w #[.int .i64 6, .int .i64 A, .int .i64 B, .int .i64 0, .int .i64 room, .slice (some ⟨ab, ao, none⟩) 2 lc, .int .i64 v0, .int .i64 v1, .int .i64 v2, .int .i64 v3, .int .i64 v4, .int .i64 v5, .int .i64 v6, .int .i64 v7, .int .u64 (s : Int)] 28).range) (below_drawn (below_new (below_new (Below.refl _ _) _) _))⟩
    clear hK K
    try go_simp
    refine wpAnyH_done (by kernel_rfl) ?_ _
    go_wp2
    by_cases h0 : 0 ≤ v0 ∧ v0 ≤ 15
    rotate_left
    · have hb0 := fun V => between_any v0 0 15 V
      simp only [show decide (0 ≤ v0 ∧ v0 ≤ 15) = false from decide_eq_false h0] at hb0
      have HB0 := Lib.hid hb0
      clear hb0
      go_quiet ((go_at_call 37; exact quiet_more (HB0.out _)))
      go_wp2
      go_ret
      exact ⟨⟨false, rfl, ⟨(fun h => by cases h), (fun h => absurd h.h0 h0)⟩⟩, by repeat (first | exact Below.refl _ _ | refine below_drawnN ?_ _ | refine below_drawn ?_ | refine below_new ?_ _)⟩
    have hb0 := fun V => between_any v0 0 15 V
    simp only [show decide (0 ≤ v0 ∧ v0 ≤ 15) = true from decide_eq_true h0] at hb0
    have HB0 := Lib.hid hb0
    clear hb0
    by_cases h7 : 0 ≤ v7 ∧ v7 ≤ 10000000
    rotate_left
    · have hb7 := fun V => isTime_any v7 V
      simp only [show decide (0 ≤ v7 ∧ v7 ≤ 10000000) = false from decide_eq_false h7] at hb7
      have HB7 := Lib.hid hb7
      clear hb7
      go_quiet ((first | (go_at_call 37; exact quiet_more (HB0.out _)) | (go_at_call 38; exact quiet_more (HB7.out _))))
      go_wp2
      go_ret
      exact ⟨⟨false, rfl, ⟨(fun h => by cases h), (fun h => absurd h.h7 h7)⟩⟩, by repeat (first | exact Below.refl _ _ | refine below_drawnN ?_ _ | refine below_drawn ?_ | refine below_new ?_ _)⟩
    have hb7 := fun V => isTime_any v7 V
    simp only [show decide (0 ≤ v7 ∧ v7 ≤ 10000000) = true from decide_eq_true h7] at hb7
    have HB7 := Lib.hid hb7
    clear hb7
    by_cases hlen : (n1 : Int) + n2 ≤ room
    rotate_left
    · have hW : IntKind.i64.wrap ((n1 : Int) + (n2 : Int)) = (n1 : Int) + (n2 : Int) := by rw [IntKind.wrap_i64]; omega
      have dl : decide (room < (n1 : Int) + (n2 : Int)) = true := decide_eq_true (by omega)
      go_quiet ((first | (go_at_call 37; exact quiet_more (HB0.out _)) | (go_at_call 38; exact quiet_more (HB7.out _))))
      go_wp2
      go_ret
      exact ⟨⟨false, rfl, ⟨(fun h => by cases h), (fun h => absurd h.len (by omega))⟩⟩, by repeat (first | exact Below.refl _ _ | refine below_drawnN ?_ _ | refine below_drawn ?_ | refine below_new ?_ _)⟩
    have hW : IntKind.i64.wrap ((n1 : Int) + (n2 : Int)) = (n1 : Int) + (n2 : Int) := by rw [IntKind.wrap_i64]; omega
    have dl : decide (room < (n1 : Int) + (n2 : Int)) = false := decide_eq_false (by omega)
    go_quiet ((first | (go_at_call 37; exact quiet_more (HB0.out _)) | (go_at_call 38; exact quiet_more (HB7.out _))))
    clear hW dl
    go_wp2
    refine wp_loop_rounds 7 ?_
    rw [rounds_succ]
    by_cases e1 : v1 = 0
    rotate_left
    · go_wp2
      go_ret
      exact ⟨⟨false, rfl, ⟨(fun h => by cases h), (fun h => absurd h.z1 e1)⟩⟩, by repeat (first | exact Below.refl _ _ | refine below_drawnN ?_ _ | refine below_drawn ?_ | refine below_new ?_ _)⟩
    subst e1
    go_wp2
    rw [rounds_succ]
    by_cases e2 : v2 = 0
    rotate_left
    · go_wp2
      go_ret
      exact ⟨⟨false, rfl, ⟨(fun h => by cases h), (fun h => absurd h.z2 e2)⟩⟩, by repeat (first | exact Below.refl _ _ | refine below_drawnN ?_ _ | refine below_drawn ?_ | refine below_new ?_ _)⟩
    subst e2
    go_wp2
    rw [rounds_succ]
    by_cases e3 : v3 = 0
    rotate_left
    · go_wp2
      go_ret
      exact ⟨⟨false, rfl, ⟨(fun h => by cases h), (fun h => absurd h.z3 e3)⟩⟩, by repeat (first | exact Below.refl _ _ | refine below_drawnN ?_ _ | refine below_drawn ?_ | refine below_new ?_ _)⟩
    subst e3
    go_wp2
    rw [rounds_succ]
    by_cases e4 : v4 = 0
    rotate_left
    · go_wp2
      go_ret
      exact ⟨⟨false, rfl, ⟨(fun h => by cases h), (fun h => absurd h.z4 e4)⟩⟩, by repeat (first | exact Below.refl _ _ | refine below_drawnN ?_ _ | refine below_drawn ?_ | refine below_new ?_ _)⟩
    subst e4
    go_wp2
    rw [rounds_succ]
    by_cases e5 : v5 = 0
    rotate_left
    · go_wp2
      go_ret
      exact ⟨⟨false, rfl, ⟨(fun h => by cases h), (fun h => absurd h.z5 e5)⟩⟩, by repeat (first | exact Below.refl _ _ | refine below_drawnN ?_ _ | refine below_drawn ?_ | refine below_new ?_ _)⟩
    subst e5
    go_wp2
    rw [rounds_succ]
    by_cases e6 : v6 = 0
    rotate_left
    · go_wp2
      go_ret
      exact ⟨⟨false, rfl, ⟨(fun h => by cases h), (fun h => absurd h.z6 e6)⟩⟩, by repeat (first | exact Below.refl _ _ | refine below_drawnN ?_ _ | refine below_drawn ?_ | refine below_new ?_ _)⟩
    subst e6
    go_wp2
    rw [rounds_succ]
    go_wp2
    by_cases hL1 : ListD xs v7 true
    rotate_left
    · have HL1 := Lib.hid hL1
      clear hL1
      refine wp_region_held_drew (S := (fun V => V.cell? ⟨w.heap.size, 5, none⟩ = some (.slice (some ⟨ab, ao, none⟩) 2 lc) ∧ V.cell? ⟨w.heap.size + 1, 7, none⟩ = some (.int .i64 v7) ∧ V.cell? ⟨ab, ao, none⟩ = some (.slice a1 n1 c1) ∧ V.cell? ⟨ab, ao + 1, none⟩ = some (.slice a2 n2 c2))) (by kernel_rfl) ?_ (fun hHeld => ?_)
      · exact ⟨by go_simp, by go_simp, below_cell_of (by repeat (first | exact Below.refl _ _ | refine below_drawnN ?_ _ | refine below_drawn ?_ | refine below_new ?_ _)) hc1, below_cell_of (by repeat (first | exact Below.refl _ _ | refine below_drawnN ?_ _ | refine below_drawn ?_ | refine below_new ?_ _)) hc2⟩
      refine wpAnyH_take (i := 0) (v := ?_) rfl (by kernel_rfl) (by kernel_rfl) (by kernel_rfl) (fun _ _ _ h => h) (Or.inl ⟨by rfl, ?_⟩) hHeld ?_
      rotate_left
      · intro wS hSw; obtain ⟨hS0, hS1, hS2, hS3⟩ := hSw; go_simp; try with_reducible rfl
      try go_simp
      refine wpAnyH_take (i := 1) (v := ?_) rfl (by kernel_rfl) (by kernel_rfl) (by kernel_rfl) (fun _ _ _ h => h) (Or.inl ⟨by rfl, ?_⟩) hHeld ?_
      rotate_left
      · intro wS hSw; obtain ⟨hS0, hS1, hS2, hS3⟩ := hSw; go_simp; try with_reducible rfl
      try go_simp
      refine wpAnyH_take (i := 2) (v := ?_) rfl (by kernel_rfl) (by kernel_rfl) (by kernel_rfl) (fun _ _ _ h => h) (Or.inl ⟨by rfl, ?_⟩) hHeld ?_
      rotate_left
      · intro wS hSw; obtain ⟨hS0, hS1, hS2, hS3⟩ := hSw; go_simp; try with_reducible rfl
      try go_simp
      refine wpAnyH_take (i := 3) (v := ?_) rfl (by kernel_rfl) (by kernel_rfl) (by kernel_rfl) (fun _ _ _ h => h) (Or.inl ⟨by rfl, ?_⟩) hHeld ?_
      rotate_left
      · intro wS hSw; obtain ⟨hS0, hS1, hS2, hS3⟩ := hSw; go_simp; try with_reducible rfl
      try go_simp
      refine wpAnyH_take (i := 4) (v := ?_) rfl (by kernel_rfl) (by kernel_rfl) (by kernel_rfl) (fun _ _ _ h => h) (Or.inl ⟨by rfl, ?_⟩) hHeld ?_
      rotate_left
      · intro wS hSw; obtain ⟨hS0, hS1, hS2, hS3⟩ := hSw; go_simp; try with_reducible rfl
      try go_simp
      refine wpAnyH_take (i := 5) (v := ?_) rfl (by kernel_rfl) (by kernel_rfl) (by kernel_rfl) (fun _ _ _ h => h) (Or.inl ⟨by rfl, ?_⟩) hHeld ?_
      rotate_left
      · intro wS hSw; obtain ⟨hS0, hS1, hS2, hS3⟩ := hSw; go_simp; try with_reducible rfl
      try go_simp
      refine wpAnyH_ready (rs := [6]) (by kernel_rfl) (by simp) ?_
      refine AllReadyH.cons rfl (fun K hK => ?_) AllReadyH.nil
      go_simp
      refine (isList_any a1 n1 c1 xs v7 true _ (HR1.out.below (by repeat (first | exact Below.refl _ _ | refine below_drawnN ?_ _ | refine below_drawn ?_ | refine below_new ?_ _))) (by omega)).mono ?_
      rintro e w5 ⟨⟨b1, rfl, hb1⟩, hb⟩
      obtain rfl : b1 = false := by cases b1 with | false => rfl | true => exact absurd (hb1.1 rfl) HL1.out
      have HB5 : RowKit.Hid (Below w.heap.size w w5) := Lib.hid (below_on (by repeat (first | exact Below.refl _ _ | refine below_drawnN ?_ _ | refine below_drawn ?_ | refine below_new ?_ _)) hb)
      clear hb1
      refine hK.out _ _ ?_ ?_
      · exact ⟨below_cell_of hb hHeld.1, below_cell_of hb hHeld.2.1, below_cell_of hb hHeld.2.2.1, below_cell_of hb hHeld.2.2.2⟩
      clear hK K hHeld hb
      intro hHeld
      try go_simp
      refine wpAnyH_take (i := 7) (v := ?_) rfl (by kernel_rfl) (by kernel_rfl) (by kernel_rfl) (fun _ _ _ h => h) (Or.inl ⟨by rfl, ?_⟩) hHeld ?_
      rotate_left
      · intro wS hSw; obtain ⟨hS0, hS1, hS2, hS3⟩ := hSw; go_simp; try with_reducible rfl
      try go_simp
      refine wpAnyH_take (i := 8) (v := undef) rfl (by kernel_rfl) (by kernel_rfl) (by kernel_rfl) (fun _ _ _ h => h) (Or.inr ⟨by rfl, rfl⟩) hHeld ?_
      try go_simp
      refine wpAnyH_take (i := 9) (v := undef) rfl (by kernel_rfl) (by kernel_rfl) (by kernel_rfl) (fun _ _ _ h => h) (Or.inr ⟨by rfl, rfl⟩) hHeld ?_
      try go_simp
      refine wpAnyH_take (i := 10) (v := undef) rfl (by kernel_rfl) (by kernel_rfl) (by kernel_rfl) (fun _ _ _ h => h) (Or.inr ⟨by rfl, rfl⟩) hHeld ?_
      try go_simp
      refine wpAnyH_take (i := 11) (v := undef) rfl (by kernel_rfl) (by kernel_rfl) (by kernel_rfl) (fun _ _ _ h => h) (Or.inr ⟨by rfl, rfl⟩) hHeld ?_
      try go_simp
      refine wpAnyH_take (i := 12) (v := undef) rfl (by kernel_rfl) (by kernel_rfl) (by kernel_rfl) (fun _ _ _ h => h) (Or.inr ⟨by rfl, rfl⟩) hHeld ?_
      try go_simp
      refine wpAnyH_take (i := 13) (v := undef) rfl (by kernel_rfl) (by kernel_rfl) (by kernel_rfl) (fun _ _ _ h => h) (Or.inr ⟨by rfl, rfl⟩) hHeld ?_
      try go_simp
      refine wpAnyH_take (i := 14) (v := undef) rfl (by kernel_rfl) (by kernel_rfl) (by kernel_rfl) (fun _ _ _ h => h) (Or.inr ⟨by rfl, rfl⟩) hHeld ?_
      try go_simp
      refine wpAnyH_take (i := 15) (v := ?_) rfl (by kernel_rfl) (by kernel_rfl) (by kernel_rfl) (fun _ _ _ h => h) (Or.inl ⟨by rfl, ?_⟩) hHeld ?_
      rotate_left
      · intro wS hSw; obtain ⟨hS0, hS1, hS2, hS3⟩ := hSw; go_simp; try with_reducible rfl
      try go_simp
      refine wpAnyH_take (i := 16) (v := ?_) rfl (by kernel_rfl) (by kernel_rfl) (by kernel_rfl) (fun _ _ _ h => h) (Or.inl ⟨by rfl, ?_⟩) hHeld ?_
      rotate_left
      · intro wS hSw; obtain ⟨hS0, hS1, hS2, hS3⟩ := hSw; go_simp; try with_reducible rfl
      try go_simp
      refine wpAnyH_done (by kernel_rfl) ?_ _
      go_wp2
      go_ret
      exact ⟨⟨false, rfl, ⟨(fun h => by cases h), (fun h => absurd h.l1 HL1.out)⟩⟩, below_drawnN HB5.out 0⟩
    have HL1 := Lib.hid hL1
    clear hL1
    by_cases hL2 : ListD ys v7 false
    rotate_left
    · have HL2 := Lib.hid hL2
      clear hL2
      refine wp_region_held_drew (S := (fun V => V.cell? ⟨w.heap.size, 5, none⟩ = some (.slice (some ⟨ab, ao, none⟩) 2 lc) ∧ V.cell? ⟨w.heap.size + 1, 7, none⟩ = some (.int .i64 v7) ∧ V.cell? ⟨ab, ao, none⟩ = some (.slice a1 n1 c1) ∧ V.cell? ⟨ab, ao + 1, none⟩ = some (.slice a2 n2 c2))) (by kernel_rfl) ?_ (fun hHeld => ?_)
      · exact ⟨by go_simp, by go_simp, below_cell_of (by repeat (first | exact Below.refl _ _ | refine below_drawnN ?_ _ | refine below_drawn ?_ | refine below_new ?_ _)) hc1, below_cell_of (by repeat (first | exact Below.refl _ _ | refine below_drawnN ?_ _ | refine below_drawn ?_ | refine below_new ?_ _)) hc2⟩
      refine wpAnyH_take (i := 0) (v := ?_) rfl (by kernel_rfl) (by kernel_rfl) (by kernel_rfl) (fun _ _ _ h => h) (Or.inl ⟨by rfl, ?_⟩) hHeld ?_
      rotate_left
      · intro wS hSw; obtain ⟨hS0, hS1, hS2, hS3⟩ := hSw; go_simp; try with_reducible rfl
      try go_simp
      refine wpAnyH_take (i := 1) (v := ?_) rfl (by kernel_rfl) (by kernel_rfl) (by kernel_rfl) (fun _ _ _ h => h) (Or.inl ⟨by rfl, ?_⟩) hHeld ?_
      rotate_left
      · intro wS hSw; obtain ⟨hS0, hS1, hS2, hS3⟩ := hSw; go_simp; try with_reducible rfl
      try go_simp
      refine wpAnyH_take (i := 2) (v := ?_) rfl (by kernel_rfl) (by kernel_rfl) (by kernel_rfl) (fun _ _ _ h => h) (Or.inl ⟨by rfl, ?_⟩) hHeld ?_
      rotate_left
      · intro wS hSw; obtain ⟨hS0, hS1, hS2, hS3⟩ := hSw; go_simp; try with_reducible rfl
      try go_simp
      refine wpAnyH_take (i := 3) (v := ?_) rfl (by kernel_rfl) (by kernel_rfl) (by kernel_rfl) (fun _ _ _ h => h) (Or.inl ⟨by rfl, ?_⟩) hHeld ?_
      rotate_left
      · intro wS hSw; obtain ⟨hS0, hS1, hS2, hS3⟩ := hSw; go_simp; try with_reducible rfl
      try go_simp
      refine wpAnyH_take (i := 4) (v := ?_) rfl (by kernel_rfl) (by kernel_rfl) (by kernel_rfl) (fun _ _ _ h => h) (Or.inl ⟨by rfl, ?_⟩) hHeld ?_
      rotate_left
      · intro wS hSw; obtain ⟨hS0, hS1, hS2, hS3⟩ := hSw; go_simp; try with_reducible rfl
      try go_simp
      refine wpAnyH_take (i := 5) (v := ?_) rfl (by kernel_rfl) (by kernel_rfl) (by kernel_rfl) (fun _ _ _ h => h) (Or.inl ⟨by rfl, ?_⟩) hHeld ?_
      rotate_left
      · intro wS hSw; obtain ⟨hS0, hS1, hS2, hS3⟩ := hSw; go_simp; try with_reducible rfl
      try go_simp
      refine wpAnyH_ready (rs := [6]) (by kernel_rfl) (by simp) ?_
      refine AllReadyH.cons rfl (fun K hK => ?_) AllReadyH.nil
      go_simp
      refine (isList_any a1 n1 c1 xs v7 true _ (HR1.out.below (by repeat (first | exact Below.refl _ _ | refine below_drawnN ?_ _ | refine below_drawn ?_ | refine below_new ?_ _))) (by omega)).mono ?_
      rintro e w5 ⟨⟨b1, rfl, hb1⟩, hb⟩
      obtain rfl : b1 = true := hb1.2 HL1.out
      have HB5 : RowKit.Hid (Below w.heap.size w w5) := Lib.hid (below_on (by repeat (first | exact Below.refl _ _ | refine below_drawnN ?_ _ | refine below_drawn ?_ | refine below_new ?_ _)) hb)
      clear hb1
      refine hK.out _ _ ?_ ?_
      · exact ⟨below_cell_of hb hHeld.1, below_cell_of hb hHeld.2.1, below_cell_of hb hHeld.2.2.1, below_cell_of hb hHeld.2.2.2⟩
      clear hK K hHeld hb
      intro hHeld
      try go_simp
      refine wpAnyH_take (i := 7) (v := ?_) rfl (by kernel_rfl) (by kernel_rfl) (by kernel_rfl) (fun _ _ _ h => h) (Or.inl ⟨by rfl, ?_⟩) hHeld ?_
      rotate_left
      · intro wS hSw; obtain ⟨hS0, hS1, hS2, hS3⟩ := hSw; go_simp; try with_reducible rfl
      try go_simp
      refine wpAnyH_take (i := 8) (v := ?_) rfl (by kernel_rfl) (by kernel_rfl) (by kernel_rfl) (fun _ _ _ h => h) (Or.inl ⟨by rfl, ?_⟩) hHeld ?_
      rotate_left
      · intro wS hSw; obtain ⟨hS0, hS1, hS2, hS3⟩ := hSw; go_simp; try with_reducible rfl
      try go_simp
      refine wpAnyH_take (i := 9) (v := ?_) rfl (by kernel_rfl) (by kernel_rfl) (by kernel_rfl) (fun _ _ _ h => h) (Or.inl ⟨by rfl, ?_⟩) hHeld ?_
      rotate_left
      · intro wS hSw; obtain ⟨hS0, hS1, hS2, hS3⟩ := hSw; go_simp; try with_reducible rfl
      try go_simp
      refine wpAnyH_take (i := 10) (v := ?_) rfl (by kernel_rfl) (by kernel_rfl) (by kernel_rfl) (fun _ _ _ h => h) (Or.inl ⟨by rfl, ?_⟩) hHeld ?_
      rotate_left
      · intro wS hSw; obtain ⟨hS0, hS1, hS2, hS3⟩ := hSw; go_simp; try with_reducible rfl
      try go_simp
      refine wpAnyH_take (i := 11) (v := ?_) rfl (by kernel_rfl) (by kernel_rfl) (by kernel_rfl) (fun _ _ _ h => h) (Or.inl ⟨by rfl, ?_⟩) hHeld ?_
      rotate_left
      · intro wS hSw; obtain ⟨hS0, hS1, hS2, hS3⟩ := hSw; go_simp; try with_reducible rfl
      try go_simp
      refine wpAnyH_take (i := 12) (v := ?_) rfl (by kernel_rfl) (by kernel_rfl) (by kernel_rfl) (fun _ _ _ h => h) (Or.inl ⟨by rfl, ?_⟩) hHeld ?_
      rotate_left
      · intro wS hSw; obtain ⟨hS0, hS1, hS2, hS3⟩ := hSw; go_simp; try with_reducible rfl
      try go_simp
      refine wpAnyH_take (i := 13) (v := ?_) rfl (by kernel_rfl) (by kernel_rfl) (by kernel_rfl) (fun _ _ _ h => h) (Or.inl ⟨by rfl, ?_⟩) hHeld ?_
      rotate_left
      · intro wS hSw; obtain ⟨hS0, hS1, hS2, hS3⟩ := hSw; go_simp; try with_reducible rfl
      try go_simp
      refine wpAnyH_ready (rs := [14]) (by kernel_rfl) (by simp) ?_
      refine AllReadyH.cons rfl (fun K hK => ?_) AllReadyH.nil
      go_simp
      refine (isList_any a2 n2 c2 ys v7 false _ (HR2.out.below HB5.out) (by omega)).mono ?_
      rintro e w6 ⟨⟨b2, rfl, hb2⟩, hb⟩
      obtain rfl : b2 = false := by cases b2 with | false => rfl | true => exact absurd (hb2.1 rfl) HL2.out
      have HB6 : RowKit.Hid (Below w.heap.size w w6) := Lib.hid (below_on HB5.out hb)
      clear hb2
      refine hK.out _ _ ?_ ?_
      · exact ⟨below_cell_of hb hHeld.1, below_cell_of hb hHeld.2.1, below_cell_of hb hHeld.2.2.1, below_cell_of hb hHeld.2.2.2⟩
      clear hK K hHeld hb
      intro hHeld
      try go_simp
      refine wpAnyH_take (i := 15) (v := ?_) rfl (by kernel_rfl) (by kernel_rfl) (by kernel_rfl) (fun _ _ _ h => h) (Or.inl ⟨by rfl, ?_⟩) hHeld ?_
      rotate_left
      · intro wS hSw; obtain ⟨hS0, hS1, hS2, hS3⟩ := hSw; go_simp; try with_reducible rfl
      try go_simp
      refine wpAnyH_take (i := 16) (v := ?_) rfl (by kernel_rfl) (by kernel_rfl) (by kernel_rfl) (fun _ _ _ h => h) (Or.inl ⟨by rfl, ?_⟩) hHeld ?_
      rotate_left
      · intro wS hSw; obtain ⟨hS0, hS1, hS2, hS3⟩ := hSw; go_simp; try with_reducible rfl
      try go_simp
      refine wpAnyH_done (by kernel_rfl) ?_ _
      go_wp2
      go_ret
      exact ⟨⟨false, rfl, ⟨(fun h => by cases h), (fun h => absurd h.l2 HL2.out)⟩⟩, below_drawnN HB6.out 0⟩
    have HL2 := Lib.hid hL2
    clear hL2
    refine wp_region_held_drew (S := (fun V => V.cell? ⟨w.heap.size, 5, none⟩ = some (.slice (some ⟨ab, ao, none⟩) 2 lc) ∧ V.cell? ⟨w.heap.size + 1, 7, none⟩ = some (.int .i64 v7) ∧ V.cell? ⟨ab, ao, none⟩ = some (.slice a1 n1 c1) ∧ V.cell? ⟨ab, ao + 1, none⟩ = some (.slice a2 n2 c2))) (by kernel_rfl) ?_ (fun hHeld => ?_)
    · exact ⟨by go_simp, by go_simp, below_cell_of (by repeat (first | exact Below.refl _ _ | refine below_drawnN ?_ _ | refine below_drawn ?_ | refine below_new ?_ _)) hc1, below_cell_of (by repeat (first | exact Below.refl _ _ | refine below_drawnN ?_ _ | refine below_drawn ?_ | refine below_new ?_ _)) hc2⟩
    refine wpAnyH_take (i := 0) (v := ?_) rfl (by kernel_rfl) (by kernel_rfl) (by kernel_rfl) (fun _ _ _ h => h) (Or.inl ⟨by rfl, ?_⟩) hHeld ?_
    rotate_left
    · intro wS hSw; obtain ⟨hS0, hS1, hS2, hS3⟩ := hSw; go_simp; try with_reducible rfl
    try go_simp
    refine wpAnyH_take (i := 1) (v := ?_) rfl (by kernel_rfl) (by kernel_rfl) (by kernel_rfl) (fun _ _ _ h => h) (Or.inl ⟨by rfl, ?_⟩) hHeld ?_
    rotate_left
    · intro wS hSw; obtain ⟨hS0, hS1, hS2, hS3⟩ := hSw; go_simp; try with_reducible rfl
    try go_simp
    refine wpAnyH_take (i := 2) (v := ?_) rfl (by kernel_rfl) (by kernel_rfl) (by kernel_rfl) (fun _ _ _ h => h) (Or.inl ⟨by rfl, ?_⟩) hHeld ?_
    rotate_left
    · intro wS hSw; obtain ⟨hS0, hS1, hS2, hS3⟩ := hSw; go_simp; try with_reducible rfl
    try go_simp
    refine wpAnyH_take (i := 3) (v := ?_) rfl (by kernel_rfl) (by kernel_rfl) (by kernel_rfl) (fun _ _ _ h => h) (Or.inl ⟨by rfl, ?_⟩) hHeld ?_
    rotate_left
    · intro wS hSw; obtain ⟨hS0, hS1, hS2, hS3⟩ := hSw; go_simp; try with_reducible rfl
    try go_simp
    refine wpAnyH_take (i := 4) (v := ?_) rfl (by kernel_rfl) (by kernel_rfl) (by kernel_rfl) (fun _ _ _ h => h) (Or.inl ⟨by rfl, ?_⟩) hHeld ?_
    rotate_left
    · intro wS hSw; obtain ⟨hS0, hS1, hS2, hS3⟩ := hSw; go_simp; try with_reducible rfl
    try go_simp
    refine wpAnyH_take (i := 5) (v := ?_) rfl (by kernel_rfl) (by kernel_rfl) (by kernel_rfl) (fun _ _ _ h => h) (Or.inl ⟨by rfl, ?_⟩) hHeld ?_
    rotate_left
    · intro wS hSw; obtain ⟨hS0, hS1, hS2, hS3⟩ := hSw; go_simp; try with_reducible rfl
    try go_simp
    refine wpAnyH_ready (rs := [6]) (by kernel_rfl) (by simp) ?_
    refine AllReadyH.cons rfl (fun K hK => ?_) AllReadyH.nil
    go_simp
    refine (isList_any a1 n1 c1 xs v7 true _ (HR1.out.below (by repeat (first | exact Below.refl _ _ | refine below_drawnN ?_ _ | refine below_drawn ?_ | refine below_new ?_ _))) (by omega)).mono ?_
    rintro e w5 ⟨⟨b1, rfl, hb1⟩, hb⟩
    obtain rfl : b1 = true := hb1.2 HL1.out
    have HB5 : RowKit.Hid (Below w.heap.size w w5) := Lib.hid (below_on (by repeat (first | exact Below.refl _ _ | refine below_drawnN ?_ _ | refine below_drawn ?_ | refine below_new ?_ _)) hb)
    clear hb1
    refine hK.out _ _ ?_ ?_
    · exact ⟨below_cell_of hb hHeld.1, below_cell_of hb hHeld.2.1, below_cell_of hb hHeld.2.2.1, below_cell_of hb hHeld.2.2.2⟩
    clear hK K hHeld hb
    intro hHeld
    try go_simp
    refine wpAnyH_take (i := 7) (v := ?_) rfl (by kernel_rfl) (by kernel_rfl) (by kernel_rfl) (fun _ _ _ h => h) (Or.inl ⟨by rfl, ?_⟩) hHeld ?_
    rotate_left
    · intro wS hSw; obtain ⟨hS0, hS1, hS2, hS3⟩ := hSw; go_simp; try with_reducible rfl
    try go_simp
    refine wpAnyH_take (i := 8) (v := ?_) rfl (by kernel_rfl) (by kernel_rfl) (by kernel_rfl) (fun _ _ _ h => h) (Or.inl ⟨by rfl, ?_⟩) hHeld ?_
    rotate_left
    · intro wS hSw; obtain ⟨hS0, hS1, hS2, hS3⟩ := hSw; go_simp; try with_reducible rfl
    try go_simp
    refine wpAnyH_take (i := 9) (v := ?_) rfl (by kernel_rfl) (by kernel_rfl) (by kernel_rfl) (fun _ _ _ h => h) (Or.inl ⟨by rfl, ?_⟩) hHeld ?_
    rotate_left
    · intro wS hSw; obtain ⟨hS0, hS1, hS2, hS3⟩ := hSw; go_simp; try with_reducible rfl
    try go_simp
    refine wpAnyH_take (i := 10) (v := ?_) rfl (by kernel_rfl) (by kernel_rfl) (by kernel_rfl) (fun _ _ _ h => h) (Or.inl ⟨by rfl, ?_⟩) hHeld ?_
    rotate_left
    · intro wS hSw; obtain ⟨hS0, hS1, hS2, hS3⟩ := hSw; go_simp; try with_reducible rfl
    try go_simp
    refine wpAnyH_take (i := 11) (v := ?_) rfl (by kernel_rfl) (by kernel_rfl) (by kernel_rfl) (fun _ _ _ h => h) (Or.inl ⟨by rfl, ?_⟩) hHeld ?_
    rotate_left
    · intro wS hSw; obtain ⟨hS0, hS1, hS2, hS3⟩ := hSw; go_simp; try with_reducible rfl
    try go_simp
    refine wpAnyH_take (i := 12) (v := ?_) rfl (by kernel_rfl) (by kernel_rfl) (by kernel_rfl) (fun _ _ _ h => h) (Or.inl ⟨by rfl, ?_⟩) hHeld ?_
    rotate_left
    · intro wS hSw; obtain ⟨hS0, hS1, hS2, hS3⟩ := hSw; go_simp; try with_reducible rfl
    try go_simp
    refine wpAnyH_take (i := 13) (v := ?_) rfl (by kernel_rfl) (by kernel_rfl) (by kernel_rfl) (fun _ _ _ h => h) (Or.inl ⟨by rfl, ?_⟩) hHeld ?_
    rotate_left
    · intro wS hSw; obtain ⟨hS0, hS1, hS2, hS3⟩ := hSw; go_simp; try with_reducible rfl
    try go_simp
    refine wpAnyH_ready (rs := [14]) (by kernel_rfl) (by simp) ?_
    refine AllReadyH.cons rfl (fun K hK => ?_) AllReadyH.nil
    go_simp
    refine (isList_any a2 n2 c2 ys v7 false _ (HR2.out.below HB5.out) (by omega)).mono ?_
    rintro e w6 ⟨⟨b2, rfl, hb2⟩, hb⟩
    obtain rfl : b2 = true := hb2.2 HL2.out
    have HB6 : RowKit.Hid (Below w.heap.size w w6) := Lib.hid (below_on HB5.out hb)
    clear hb2
    refine hK.out _ _ ?_ ?_
    · exact ⟨below_cell_of hb hHeld.1, below_cell_of hb hHeld.2.1, below_cell_of hb hHeld.2.2.1, below_cell_of hb hHeld.2.2.2⟩
    clear hK K hHeld hb
    intro hHeld
    try go_simp
    refine wpAnyH_take (i := 15) (v := ?_) rfl (by kernel_rfl) (by kernel_rfl) (by kernel_rfl) (fun _ _ _ h => h) (Or.inl ⟨by rfl, ?_⟩) hHeld ?_
    rotate_left
    · intro wS hSw; obtain ⟨hS0, hS1, hS2, hS3⟩ := hSw; go_simp; try with_reducible rfl
    try go_simp
    refine wpAnyH_take (i := 16) (v := ?_) rfl (by kernel_rfl) (by kernel_rfl) (by kernel_rfl) (fun _ _ _ h => h) (Or.inl ⟨by rfl, ?_⟩) hHeld ?_
    rotate_left
    · intro wS hSw; obtain ⟨hS0, hS1, hS2, hS3⟩ := hSw; go_simp; try with_reducible rfl
    try go_simp
    refine wpAnyH_done (by kernel_rfl) ?_ _
    go_wp2
    go_ret
    exact ⟨⟨true, rfl, ⟨fun _ => ⟨rfl, rfl, rfl, rfl, rfl, rfl, h0, h7, hlen, HL1.out, HL2.out⟩, fun _ => rfl⟩⟩, below_drawnN HB6.out 0⟩
end Go.Proofs.YtdecclklenaoaaaDoor
