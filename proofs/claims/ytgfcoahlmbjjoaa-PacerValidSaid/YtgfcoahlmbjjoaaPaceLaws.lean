/- The statements on package pacer that have no lists: each returns true, whatever the input, and leaves what was in memory alone. -/
import Derived.Test.YtgfcoahlmbjjoaaPaceHead
import Derived.Deep.RegionHeld
namespace Go.Proofs.Ytgfcoahlmbjjoaa
open Go.RowKit

set_option maxHeartbeats 1000000 in
set_option maxRecDepth 100000 in
theorem matches_walk (n r now size rate : Int) (w : World)  : Calls Try.prog 3 #[.agg #[.int .i64 n, .int .i64 r], .int .i64 now, .int .i64 size, .int .i64 rate] w fun e w' => e = .returned (.bool true) ∧ Below w.heap.size w w' := by
  obtain ⟨a, b, c, hS⟩ : ∃ a b c, Pc.send n r now size rate = (a, b, c) := ⟨_, _, _, rfl⟩
  have HS := Lib.hid hS
  clear hS
  go_enter Try.func3, Try.ntmps3
  go_wp2_with fail
  refine (head_ok _).mono ?_
  rintro e w1 ⟨rfl, hb_w1⟩
  have hB_w1 : Below w.heap.size w w1 := below_on (by (repeat (first | exact Below.refl _ _ | refine below_drawn ?_ | refine below_drawnN ?_ _ | refine below_new ?_ _))) hb_w1
  have hz_w1 := hb_w1.size
  try simp only [World.size_setCell] at hz_w1
  try simp only [World.size_drew] at hz_w1
  try simp only [World.size_drewN] at hz_w1
  try simp only [World.size_alloc] at hz_w1
  try simp only [World.size_setCell] at hz_w1
  try simp only [World.size_drew] at hz_w1
  try simp only [World.size_drewN] at hz_w1
  try simp only [World.size_alloc] at hz_w1
  have hl0_w1 : w.heap.size < w1.heap.size := by omega
  have c0_w1 : w1.cell? ⟨w.heap.size, 0, none⟩ = some (.int .i64 n) := below_cell_of hb_w1 (by first | (go_simp; done))
  have c1_w1 : w1.cell? ⟨w.heap.size, 1, none⟩ = some (.int .i64 r) := below_cell_of hb_w1 (by first | (go_simp; done))
  go_wp2_with fail
  refine (send_any n r now size rate _).mono ?_
  rw [HS.out]
  rintro e w2 ⟨rfl, hb_w2⟩
  have hB_w2 : Below w.heap.size w w2 := below_on (by first | ((repeat (first | exact Below.refl _ _ | refine below_drawn ?_ | refine below_drawnN ?_ _ | refine below_new ?_ _)); done) | (refine below_on hB_w1 ?_; (repeat (first | exact Below.refl _ _ | refine below_drawn ?_ | refine below_drawnN ?_ _ | refine below_new ?_ _)))) hb_w2
  have hz_w2 := hb_w2.size
  try simp only [World.size_setCell] at hz_w2
  try simp only [World.size_drew] at hz_w2
  try simp only [World.size_drewN] at hz_w2
  try simp only [World.size_alloc] at hz_w2
  try simp only [World.size_setCell] at hz_w2
  try simp only [World.size_drew] at hz_w2
  try simp only [World.size_drewN] at hz_w2
  try simp only [World.size_alloc] at hz_w2
  have hl0_w2 : w.heap.size < w2.heap.size := by omega
  have c0_w2 : w2.cell? ⟨w.heap.size, 0, none⟩ = some (.int .i64 n) := below_cell_of hb_w2 (by first | (go_simp; done) | (refine below_cell_of (w := w1) ?_ (by first | assumption | (go_simp; done)); (repeat (first | exact Below.refl _ _ | refine below_drawn ?_ | refine below_drawnN ?_ _ | refine below_new ?_ _))))
  have c1_w2 : w2.cell? ⟨w.heap.size, 1, none⟩ = some (.int .i64 r) := below_cell_of hb_w2 (by first | (go_simp; done) | (refine below_cell_of (w := w1) ?_ (by first | assumption | (go_simp; done)); (repeat (first | exact Below.refl _ _ | refine below_drawn ?_ | refine below_drawnN ?_ _ | refine below_new ?_ _))))
  go_wp2_with fail
  refine (rsend_any n r now size rate _).mono ?_
  rw [HS.out]
  rintro e w3 ⟨rfl, hb_w3⟩
  have hB_w3 : Below w.heap.size w w3 := below_on (by first | ((repeat (first | exact Below.refl _ _ | refine below_drawn ?_ | refine below_drawnN ?_ _ | refine below_new ?_ _)); done) | (refine below_on hB_w2 ?_; (repeat (first | exact Below.refl _ _ | refine below_drawn ?_ | refine below_drawnN ?_ _ | refine below_new ?_ _)))) hb_w3
  have hz_w3 := hb_w3.size
  try simp only [World.size_setCell] at hz_w3
  try simp only [World.size_drew] at hz_w3
  try simp only [World.size_drewN] at hz_w3
  try simp only [World.size_alloc] at hz_w3
  try simp only [World.size_setCell] at hz_w3
  try simp only [World.size_drew] at hz_w3
  try simp only [World.size_drewN] at hz_w3
  try simp only [World.size_alloc] at hz_w3
  have hl0_w3 : w.heap.size < w3.heap.size := by omega
  have hl1_w3 : w2.heap.size < w3.heap.size := by omega
  have c0_w3 : w3.cell? ⟨w.heap.size, 0, none⟩ = some (.int .i64 n) := below_cell_of hb_w3 (by first | (go_simp; done) | (refine below_cell_of (w := w2) ?_ (by first | assumption | (go_simp; done)); (repeat (first | exact Below.refl _ _ | refine below_drawn ?_ | refine below_drawnN ?_ _ | refine below_new ?_ _))))
  have c1_w3 : w3.cell? ⟨w.heap.size, 1, none⟩ = some (.int .i64 r) := below_cell_of hb_w3 (by first | (go_simp; done) | (refine below_cell_of (w := w2) ?_ (by first | assumption | (go_simp; done)); (repeat (first | exact Below.refl _ _ | refine below_drawn ?_ | refine below_drawnN ?_ _ | refine below_new ?_ _))))
  have d0_w3 : w3.cell? ⟨w2.heap.size, 0, none⟩ = some (.int .i64 a) := below_cell_of hb_w3 (by first | (go_simp; done) | (refine below_cell_of (w := w2) ?_ (by first | assumption | (go_simp; done)); (repeat (first | exact Below.refl _ _ | refine below_drawn ?_ | refine below_drawnN ?_ _ | refine below_new ?_ _))))
  have d1_w3 : w3.cell? ⟨w2.heap.size, 1, none⟩ = some (.int .i64 b) := below_cell_of hb_w3 (by first | (go_simp; done) | (refine below_cell_of (w := w2) ?_ (by first | assumption | (go_simp; done)); (repeat (first | exact Below.refl _ _ | refine below_drawn ?_ | refine below_drawnN ?_ _ | refine below_new ?_ _))))
  go_wp2
  refine wp_region_held_drew (S := (fun W => W.cell? ⟨w.heap.size, 0, none⟩ = some (.int .i64 n) ∧ W.cell? ⟨w.heap.size, 1, none⟩ = some (.int .i64 r) ∧ W.cell? ⟨w2.heap.size, 0, none⟩ = some (.int .i64 a) ∧ W.cell? ⟨w2.heap.size, 1, none⟩ = some (.int .i64 b) ∧ W.cell? ⟨w3.heap.size, 0, none⟩ = some (.int .i64 a) ∧ W.cell? ⟨w3.heap.size, 1, none⟩ = some (.int .i64 b))) (by kernel_rfl) ?_ (fun hHeld => ?_)
  · exact ⟨by first | assumption | (go_simp; done), by first | assumption | (go_simp; done), by first | assumption | (go_simp; done), by first | assumption | (go_simp; done), by first | assumption | (go_simp; done), by first | assumption | (go_simp; done)⟩
  refine wpAnyH_take (i := 0) (v := ?_) rfl (by kernel_rfl) (by kernel_rfl) (by kernel_rfl) (fun _ _ _ h => h) (Or.inl ⟨by rfl, ?_⟩) hHeld ?_
  rotate_left
  · intro w hSw; obtain ⟨hS0, hS1, hS2, hS3, hS4, hS5⟩ := hSw; go_simp; try with_reducible rfl
  try go_simp
  refine wpAnyH_take (i := 1) (v := ?_) rfl (by kernel_rfl) (by kernel_rfl) (by kernel_rfl) (fun _ _ _ h => h) (Or.inl ⟨by rfl, ?_⟩) hHeld ?_
  rotate_left
  · intro w hSw; obtain ⟨hS0, hS1, hS2, hS3, hS4, hS5⟩ := hSw; go_simp; try with_reducible rfl
  try go_simp
  refine wpAnyH_take (i := 2) (v := ?_) rfl (by kernel_rfl) (by kernel_rfl) (by kernel_rfl) (fun _ _ _ h => h) (Or.inl ⟨by rfl, ?_⟩) hHeld ?_
  rotate_left
  · intro w hSw; obtain ⟨hS0, hS1, hS2, hS3, hS4, hS5⟩ := hSw; go_simp; try with_reducible rfl
  try go_simp
  refine wpAnyH_take (i := 3) (v := ?_) rfl (by kernel_rfl) (by kernel_rfl) (by kernel_rfl) (fun _ _ _ h => h) (Or.inl ⟨by rfl, ?_⟩) hHeld ?_
  rotate_left
  · intro w hSw; obtain ⟨hS0, hS1, hS2, hS3, hS4, hS5⟩ := hSw; go_simp; try with_reducible rfl
  try go_simp
  refine wpAnyH_take (i := 4) (v := ?_) rfl (by kernel_rfl) (by kernel_rfl) (by kernel_rfl) (fun _ _ _ h => h) (Or.inl ⟨by rfl, ?_⟩) hHeld ?_
  rotate_left
  · intro w hSw; obtain ⟨hS0, hS1, hS2, hS3, hS4, hS5⟩ := hSw; go_simp; try with_reducible rfl
  try go_simp
  refine wpAnyH_take (i := 5) (v := ?_) rfl (by kernel_rfl) (by kernel_rfl) (by kernel_rfl) (fun _ _ _ h => h) (Or.inl ⟨by rfl, ?_⟩) hHeld ?_
  rotate_left
  · intro w hSw; obtain ⟨hS0, hS1, hS2, hS3, hS4, hS5⟩ := hSw; go_simp; try with_reducible rfl
  try go_simp
  refine wpAnyH_take (i := 6) (v := ?_) rfl (by kernel_rfl) (by kernel_rfl) (by kernel_rfl) (fun _ _ _ h => h) (Or.inl ⟨by rfl, ?_⟩) hHeld ?_
  rotate_left
  · intro w hSw; obtain ⟨hS0, hS1, hS2, hS3, hS4, hS5⟩ := hSw; go_simp; try with_reducible rfl
  try go_simp
  refine wpAnyH_take (i := 7) (v := ?_) rfl (by kernel_rfl) (by kernel_rfl) (by kernel_rfl) (fun _ _ _ h => h) (Or.inl ⟨by rfl, ?_⟩) hHeld ?_
  rotate_left
  · intro w hSw; obtain ⟨hS0, hS1, hS2, hS3, hS4, hS5⟩ := hSw; go_simp; try with_reducible rfl
  try go_simp
  refine wpAnyH_take (i := 8) (v := ?_) rfl (by kernel_rfl) (by kernel_rfl) (by kernel_rfl) (fun _ _ _ h => h) (Or.inl ⟨by rfl, ?_⟩) hHeld ?_
  rotate_left
  · intro w hSw; obtain ⟨hS0, hS1, hS2, hS3, hS4, hS5⟩ := hSw; go_simp; try with_reducible rfl
  try go_simp
  refine wpAnyH_take (i := 9) (v := ?_) rfl (by kernel_rfl) (by kernel_rfl) (by kernel_rfl) (fun _ _ _ h => h) (Or.inl ⟨by rfl, ?_⟩) hHeld ?_
  rotate_left
  · intro w hSw; obtain ⟨hS0, hS1, hS2, hS3, hS4, hS5⟩ := hSw; go_simp; try with_reducible rfl
  try go_simp
  refine wpAnyH_take (i := 10) (v := ?_) rfl (by kernel_rfl) (by kernel_rfl) (by kernel_rfl) (fun _ _ _ h => h) (Or.inl ⟨by rfl, ?_⟩) hHeld ?_
  rotate_left
  · intro w hSw; obtain ⟨hS0, hS1, hS2, hS3, hS4, hS5⟩ := hSw; go_simp; try with_reducible rfl
  try go_simp
  refine wpAnyH_take (i := 11) (v := ?_) rfl (by kernel_rfl) (by kernel_rfl) (by kernel_rfl) (fun _ _ _ h => h) (Or.inl ⟨by rfl, ?_⟩) hHeld ?_
  rotate_left
  · intro w hSw; obtain ⟨hS0, hS1, hS2, hS3, hS4, hS5⟩ := hSw; go_simp; try with_reducible rfl
  try go_simp
  refine wpAnyH_take (i := 12) (v := ?_) rfl (by kernel_rfl) (by kernel_rfl) (by kernel_rfl) (fun _ _ _ h => h) (Or.inl ⟨by rfl, ?_⟩) hHeld ?_
  rotate_left
  · intro w hSw; obtain ⟨hS0, hS1, hS2, hS3, hS4, hS5⟩ := hSw; go_simp; try with_reducible rfl
  try go_simp
  refine wpAnyH_take (i := 14) (v := ?_) rfl (by kernel_rfl) (by kernel_rfl) (by kernel_rfl) (fun _ _ _ h => h) (Or.inl ⟨by rfl, ?_⟩) hHeld ?_
  rotate_left
  · intro w hSw; obtain ⟨hS0, hS1, hS2, hS3, hS4, hS5⟩ := hSw; go_simp; try with_reducible rfl
  try go_simp
  refine wpAnyH_ready (rs := [13]) (by kernel_rfl) (by simp) ?_
  refine AllReadyH.cons rfl (fun K hK => ?_) AllReadyH.nil
  go_simp
  refine (valid_any n r _).mono ?_
  rintro e w4 ⟨rfl, hb_w4⟩
  have hB_w4 : Below w.heap.size w w4 := below_on (by first | ((repeat (first | exact Below.refl _ _ | refine below_drawn ?_ | refine below_drawnN ?_ _ | refine below_new ?_ _)); done) | (refine below_on hB_w3 ?_; (repeat (first | exact Below.refl _ _ | refine below_drawn ?_ | refine below_drawnN ?_ _ | refine below_new ?_ _)))) hb_w4
  have hz_w4 := hb_w4.size
  try simp only [World.size_setCell] at hz_w4
  try simp only [World.size_drew] at hz_w4
  try simp only [World.size_drewN] at hz_w4
  try simp only [World.size_alloc] at hz_w4
  try simp only [World.size_setCell] at hz_w4
  try simp only [World.size_drew] at hz_w4
  try simp only [World.size_drewN] at hz_w4
  try simp only [World.size_alloc] at hz_w4
  have hl0_w4 : w.heap.size < w4.heap.size := by omega
  have hl1_w4 : w2.heap.size < w4.heap.size := by omega
  have hl2_w4 : w3.heap.size < w4.heap.size := by omega
  have c0_w4 : w4.cell? ⟨w.heap.size, 0, none⟩ = some (.int .i64 n) := below_cell_of hb_w4 (by first | (go_simp; done) | (refine below_cell_of (w := w3) ?_ (by first | assumption | (go_simp; done)); (repeat (first | exact Below.refl _ _ | refine below_drawn ?_ | refine below_drawnN ?_ _ | refine below_new ?_ _))))
  have c1_w4 : w4.cell? ⟨w.heap.size, 1, none⟩ = some (.int .i64 r) := below_cell_of hb_w4 (by first | (go_simp; done) | (refine below_cell_of (w := w3) ?_ (by first | assumption | (go_simp; done)); (repeat (first | exact Below.refl _ _ | refine below_drawn ?_ | refine below_drawnN ?_ _ | refine below_new ?_ _))))
  have d0_w4 : w4.cell? ⟨w2.heap.size, 0, none⟩ = some (.int .i64 a) := below_cell_of hb_w4 (by first | (go_simp; done) | (refine below_cell_of (w := w3) ?_ (by first | assumption | (go_simp; done)); (repeat (first | exact Below.refl _ _ | refine below_drawn ?_ | refine below_drawnN ?_ _ | refine below_new ?_ _))))
  have d1_w4 : w4.cell? ⟨w2.heap.size, 1, none⟩ = some (.int .i64 b) := below_cell_of hb_w4 (by first | (go_simp; done) | (refine below_cell_of (w := w3) ?_ (by first | assumption | (go_simp; done)); (repeat (first | exact Below.refl _ _ | refine below_drawn ?_ | refine below_drawnN ?_ _ | refine below_new ?_ _))))
  have e0_w4 : w4.cell? ⟨w3.heap.size, 0, none⟩ = some (.int .i64 a) := below_cell_of hb_w4 (by first | (go_simp; done) | (refine below_cell_of (w := w3) ?_ (by first | assumption | (go_simp; done)); (repeat (first | exact Below.refl _ _ | refine below_drawn ?_ | refine below_drawnN ?_ _ | refine below_new ?_ _))))
  have e1_w4 : w4.cell? ⟨w3.heap.size, 1, none⟩ = some (.int .i64 b) := below_cell_of hb_w4 (by first | (go_simp; done) | (refine below_cell_of (w := w3) ?_ (by first | assumption | (go_simp; done)); (repeat (first | exact Below.refl _ _ | refine below_drawn ?_ | refine below_drawnN ?_ _ | refine below_new ?_ _))))
  refine hK.out _ _ ?_ (fun hHeld => ?_)
  · exact ⟨by first | assumption | (go_simp; done), by first | assumption | (go_simp; done), by first | assumption | (go_simp; done), by first | assumption | (go_simp; done), by first | assumption | (go_simp; done), by first | assumption | (go_simp; done)⟩
  clear hK K
  try go_simp
  refine wpAnyH_ready (rs := [15]) (by kernel_rfl) (by simp) ?_
  refine AllReadyH.cons rfl (fun K hK => ?_) AllReadyH.nil
  go_simp
  refine (rvalid_any n r _).mono ?_
  rintro e w5 ⟨rfl, hb_w5⟩
  have hB_w5 : Below w.heap.size w w5 := below_on (by first | ((repeat (first | exact Below.refl _ _ | refine below_drawn ?_ | refine below_drawnN ?_ _ | refine below_new ?_ _)); done) | (refine below_on hB_w4 ?_; (repeat (first | exact Below.refl _ _ | refine below_drawn ?_ | refine below_drawnN ?_ _ | refine below_new ?_ _)))) hb_w5
  have hz_w5 := hb_w5.size
  try simp only [World.size_setCell] at hz_w5
  try simp only [World.size_drew] at hz_w5
  try simp only [World.size_drewN] at hz_w5
  try simp only [World.size_alloc] at hz_w5
  try simp only [World.size_setCell] at hz_w5
  try simp only [World.size_drew] at hz_w5
  try simp only [World.size_drewN] at hz_w5
  try simp only [World.size_alloc] at hz_w5
  have hl0_w5 : w.heap.size < w5.heap.size := by omega
  have hl1_w5 : w2.heap.size < w5.heap.size := by omega
  have hl2_w5 : w3.heap.size < w5.heap.size := by omega
  have c0_w5 : w5.cell? ⟨w.heap.size, 0, none⟩ = some (.int .i64 n) := below_cell_of hb_w5 (by first | (go_simp; done) | (refine below_cell_of (w := w4) ?_ (by first | assumption | (go_simp; done)); (repeat (first | exact Below.refl _ _ | refine below_drawn ?_ | refine below_drawnN ?_ _ | refine below_new ?_ _))))
  have c1_w5 : w5.cell? ⟨w.heap.size, 1, none⟩ = some (.int .i64 r) := below_cell_of hb_w5 (by first | (go_simp; done) | (refine below_cell_of (w := w4) ?_ (by first | assumption | (go_simp; done)); (repeat (first | exact Below.refl _ _ | refine below_drawn ?_ | refine below_drawnN ?_ _ | refine below_new ?_ _))))
  have d0_w5 : w5.cell? ⟨w2.heap.size, 0, none⟩ = some (.int .i64 a) := below_cell_of hb_w5 (by first | (go_simp; done) | (refine below_cell_of (w := w4) ?_ (by first | assumption | (go_simp; done)); (repeat (first | exact Below.refl _ _ | refine below_drawn ?_ | refine below_drawnN ?_ _ | refine below_new ?_ _))))
  have d1_w5 : w5.cell? ⟨w2.heap.size, 1, none⟩ = some (.int .i64 b) := below_cell_of hb_w5 (by first | (go_simp; done) | (refine below_cell_of (w := w4) ?_ (by first | assumption | (go_simp; done)); (repeat (first | exact Below.refl _ _ | refine below_drawn ?_ | refine below_drawnN ?_ _ | refine below_new ?_ _))))
  have e0_w5 : w5.cell? ⟨w3.heap.size, 0, none⟩ = some (.int .i64 a) := below_cell_of hb_w5 (by first | (go_simp; done) | (refine below_cell_of (w := w4) ?_ (by first | assumption | (go_simp; done)); (repeat (first | exact Below.refl _ _ | refine below_drawn ?_ | refine below_drawnN ?_ _ | refine below_new ?_ _))))
  have e1_w5 : w5.cell? ⟨w3.heap.size, 1, none⟩ = some (.int .i64 b) := below_cell_of hb_w5 (by first | (go_simp; done) | (refine below_cell_of (w := w4) ?_ (by first | assumption | (go_simp; done)); (repeat (first | exact Below.refl _ _ | refine below_drawn ?_ | refine below_drawnN ?_ _ | refine below_new ?_ _))))
  refine hK.out _ _ ?_ (fun hHeld => ?_)
  · exact ⟨by first | assumption | (go_simp; done), by first | assumption | (go_simp; done), by first | assumption | (go_simp; done), by first | assumption | (go_simp; done), by first | assumption | (go_simp; done), by first | assumption | (go_simp; done)⟩
  clear hK K
  try go_simp
  refine wpAnyH_take (i := 16) (v := ?_) rfl (by kernel_rfl) (by kernel_rfl) (by kernel_rfl) (fun _ _ _ h => h) (Or.inl ⟨by rfl, ?_⟩) hHeld ?_
  rotate_left
  · intro w hSw; obtain ⟨hS0, hS1, hS2, hS3, hS4, hS5⟩ := hSw; go_simp; try with_reducible rfl
  try go_simp
  refine wpAnyH_take (i := 17) (v := ?_) rfl (by kernel_rfl) (by kernel_rfl) (by kernel_rfl) (fun _ _ _ h => h) (Or.inl ⟨by rfl, ?_⟩) hHeld ?_
  rotate_left
  · intro w hSw; obtain ⟨hS0, hS1, hS2, hS3, hS4, hS5⟩ := hSw; go_simp; try with_reducible rfl
  try go_simp
  refine wpAnyH_take (i := 18) (v := ?_) rfl (by kernel_rfl) (by kernel_rfl) (by kernel_rfl) (fun _ _ _ h => h) (Or.inl ⟨by rfl, ?_⟩) hHeld ?_
  rotate_left
  · intro w hSw; obtain ⟨hS0, hS1, hS2, hS3, hS4, hS5⟩ := hSw; go_simp; try with_reducible rfl
  try go_simp
  refine wpAnyH_take (i := 19) (v := ?_) rfl (by kernel_rfl) (by kernel_rfl) (by kernel_rfl) (fun _ _ _ h => h) (Or.inl ⟨by rfl, ?_⟩) hHeld ?_
  rotate_left
  · intro w hSw; obtain ⟨hS0, hS1, hS2, hS3, hS4, hS5⟩ := hSw; go_simp; try with_reducible rfl
  try go_simp
  refine wpAnyH_take (i := 20) (v := ?_) rfl (by kernel_rfl) (by kernel_rfl) (by kernel_rfl) (fun _ _ _ h => h) (Or.inl ⟨by rfl, ?_⟩) hHeld ?_
  rotate_left
  · intro w hSw; obtain ⟨hS0, hS1, hS2, hS3, hS4, hS5⟩ := hSw; go_simp; try with_reducible rfl
  try go_simp
  refine wpAnyH_take (i := 22) (v := ?_) rfl (by kernel_rfl) (by kernel_rfl) (by kernel_rfl) (fun _ _ _ h => h) (Or.inl ⟨by rfl, ?_⟩) hHeld ?_
  rotate_left
  · intro w hSw; obtain ⟨hS0, hS1, hS2, hS3, hS4, hS5⟩ := hSw; go_simp; try with_reducible rfl
  try go_simp
  refine wpAnyH_take (i := 23) (v := ?_) rfl (by kernel_rfl) (by kernel_rfl) (by kernel_rfl) (fun _ _ _ h => h) (Or.inl ⟨by rfl, ?_⟩) hHeld ?_
  rotate_left
  · intro w hSw; obtain ⟨hS0, hS1, hS2, hS3, hS4, hS5⟩ := hSw; go_simp; try with_reducible rfl
  try go_simp
  refine wpAnyH_ready (rs := [21]) (by kernel_rfl) (by simp) ?_
  refine AllReadyH.cons rfl (fun K hK => ?_) AllReadyH.nil
  go_simp
  refine (ready_any n r now _).mono ?_
  rintro e w6 ⟨rfl, hb_w6⟩
  have hB_w6 : Below w.heap.size w w6 := below_on (by first | ((repeat (first | exact Below.refl _ _ | refine below_drawn ?_ | refine below_drawnN ?_ _ | refine below_new ?_ _)); done) | (refine below_on hB_w5 ?_; (repeat (first | exact Below.refl _ _ | refine below_drawn ?_ | refine below_drawnN ?_ _ | refine below_new ?_ _)))) hb_w6
  have hz_w6 := hb_w6.size
  try simp only [World.size_setCell] at hz_w6
  try simp only [World.size_drew] at hz_w6
  try simp only [World.size_drewN] at hz_w6
  try simp only [World.size_alloc] at hz_w6
  try simp only [World.size_setCell] at hz_w6
  try simp only [World.size_drew] at hz_w6
  try simp only [World.size_drewN] at hz_w6
  try simp only [World.size_alloc] at hz_w6
  have hl0_w6 : w.heap.size < w6.heap.size := by omega
  have hl1_w6 : w2.heap.size < w6.heap.size := by omega
  have hl2_w6 : w3.heap.size < w6.heap.size := by omega
  have c0_w6 : w6.cell? ⟨w.heap.size, 0, none⟩ = some (.int .i64 n) := below_cell_of hb_w6 (by first | (go_simp; done) | (refine below_cell_of (w := w5) ?_ (by first | assumption | (go_simp; done)); (repeat (first | exact Below.refl _ _ | refine below_drawn ?_ | refine below_drawnN ?_ _ | refine below_new ?_ _))))
  have c1_w6 : w6.cell? ⟨w.heap.size, 1, none⟩ = some (.int .i64 r) := below_cell_of hb_w6 (by first | (go_simp; done) | (refine below_cell_of (w := w5) ?_ (by first | assumption | (go_simp; done)); (repeat (first | exact Below.refl _ _ | refine below_drawn ?_ | refine below_drawnN ?_ _ | refine below_new ?_ _))))
  have d0_w6 : w6.cell? ⟨w2.heap.size, 0, none⟩ = some (.int .i64 a) := below_cell_of hb_w6 (by first | (go_simp; done) | (refine below_cell_of (w := w5) ?_ (by first | assumption | (go_simp; done)); (repeat (first | exact Below.refl _ _ | refine below_drawn ?_ | refine below_drawnN ?_ _ | refine below_new ?_ _))))
  have d1_w6 : w6.cell? ⟨w2.heap.size, 1, none⟩ = some (.int .i64 b) := below_cell_of hb_w6 (by first | (go_simp; done) | (refine below_cell_of (w := w5) ?_ (by first | assumption | (go_simp; done)); (repeat (first | exact Below.refl _ _ | refine below_drawn ?_ | refine below_drawnN ?_ _ | refine below_new ?_ _))))
  have e0_w6 : w6.cell? ⟨w3.heap.size, 0, none⟩ = some (.int .i64 a) := below_cell_of hb_w6 (by first | (go_simp; done) | (refine below_cell_of (w := w5) ?_ (by first | assumption | (go_simp; done)); (repeat (first | exact Below.refl _ _ | refine below_drawn ?_ | refine below_drawnN ?_ _ | refine below_new ?_ _))))
  have e1_w6 : w6.cell? ⟨w3.heap.size, 1, none⟩ = some (.int .i64 b) := below_cell_of hb_w6 (by first | (go_simp; done) | (refine below_cell_of (w := w5) ?_ (by first | assumption | (go_simp; done)); (repeat (first | exact Below.refl _ _ | refine below_drawn ?_ | refine below_drawnN ?_ _ | refine below_new ?_ _))))
  refine hK.out _ _ ?_ (fun hHeld => ?_)
  · exact ⟨by first | assumption | (go_simp; done), by first | assumption | (go_simp; done), by first | assumption | (go_simp; done), by first | assumption | (go_simp; done), by first | assumption | (go_simp; done), by first | assumption | (go_simp; done)⟩
  clear hK K
  try go_simp
  refine wpAnyH_ready (rs := [24]) (by kernel_rfl) (by simp) ?_
  refine AllReadyH.cons rfl (fun K hK => ?_) AllReadyH.nil
  go_simp
  refine (rready_any n r now _).mono ?_
  rintro e w7 ⟨rfl, hb_w7⟩
  have hB_w7 : Below w.heap.size w w7 := below_on (by first | ((repeat (first | exact Below.refl _ _ | refine below_drawn ?_ | refine below_drawnN ?_ _ | refine below_new ?_ _)); done) | (refine below_on hB_w6 ?_; (repeat (first | exact Below.refl _ _ | refine below_drawn ?_ | refine below_drawnN ?_ _ | refine below_new ?_ _)))) hb_w7
  have hz_w7 := hb_w7.size
  try simp only [World.size_setCell] at hz_w7
  try simp only [World.size_drew] at hz_w7
  try simp only [World.size_drewN] at hz_w7
  try simp only [World.size_alloc] at hz_w7
  try simp only [World.size_setCell] at hz_w7
  try simp only [World.size_drew] at hz_w7
  try simp only [World.size_drewN] at hz_w7
  try simp only [World.size_alloc] at hz_w7
  have hl0_w7 : w.heap.size < w7.heap.size := by omega
  have hl1_w7 : w2.heap.size < w7.heap.size := by omega
  have hl2_w7 : w3.heap.size < w7.heap.size := by omega
  have c0_w7 : w7.cell? ⟨w.heap.size, 0, none⟩ = some (.int .i64 n) := below_cell_of hb_w7 (by first | (go_simp; done) | (refine below_cell_of (w := w6) ?_ (by first | assumption | (go_simp; done)); (repeat (first | exact Below.refl _ _ | refine below_drawn ?_ | refine below_drawnN ?_ _ | refine below_new ?_ _))))
  have c1_w7 : w7.cell? ⟨w.heap.size, 1, none⟩ = some (.int .i64 r) := below_cell_of hb_w7 (by first | (go_simp; done) | (refine below_cell_of (w := w6) ?_ (by first | assumption | (go_simp; done)); (repeat (first | exact Below.refl _ _ | refine below_drawn ?_ | refine below_drawnN ?_ _ | refine below_new ?_ _))))
  have d0_w7 : w7.cell? ⟨w2.heap.size, 0, none⟩ = some (.int .i64 a) := below_cell_of hb_w7 (by first | (go_simp; done) | (refine below_cell_of (w := w6) ?_ (by first | assumption | (go_simp; done)); (repeat (first | exact Below.refl _ _ | refine below_drawn ?_ | refine below_drawnN ?_ _ | refine below_new ?_ _))))
  have d1_w7 : w7.cell? ⟨w2.heap.size, 1, none⟩ = some (.int .i64 b) := below_cell_of hb_w7 (by first | (go_simp; done) | (refine below_cell_of (w := w6) ?_ (by first | assumption | (go_simp; done)); (repeat (first | exact Below.refl _ _ | refine below_drawn ?_ | refine below_drawnN ?_ _ | refine below_new ?_ _))))
  have e0_w7 : w7.cell? ⟨w3.heap.size, 0, none⟩ = some (.int .i64 a) := below_cell_of hb_w7 (by first | (go_simp; done) | (refine below_cell_of (w := w6) ?_ (by first | assumption | (go_simp; done)); (repeat (first | exact Below.refl _ _ | refine below_drawn ?_ | refine below_drawnN ?_ _ | refine below_new ?_ _))))
  have e1_w7 : w7.cell? ⟨w3.heap.size, 1, none⟩ = some (.int .i64 b) := below_cell_of hb_w7 (by first | (go_simp; done) | (refine below_cell_of (w := w6) ?_ (by first | assumption | (go_simp; done)); (repeat (first | exact Below.refl _ _ | refine below_drawn ?_ | refine below_drawnN ?_ _ | refine below_new ?_ _))))
  refine hK.out _ _ ?_ (fun hHeld => ?_)
  · exact ⟨by first | assumption | (go_simp; done), by first | assumption | (go_simp; done), by first | assumption | (go_simp; done), by first | assumption | (go_simp; done), by first | assumption | (go_simp; done), by first | assumption | (go_simp; done)⟩
  clear hK K
  try go_simp
  refine wpAnyH_take (i := 25) (v := ?_) rfl (by kernel_rfl) (by kernel_rfl) (by kernel_rfl) (fun _ _ _ h => h) (Or.inl ⟨by rfl, ?_⟩) hHeld ?_
  rotate_left
  · intro w hSw; obtain ⟨hS0, hS1, hS2, hS3, hS4, hS5⟩ := hSw; go_simp; try with_reducible rfl
  try go_simp
  refine wpAnyH_take (i := 26) (v := ?_) rfl (by kernel_rfl) (by kernel_rfl) (by kernel_rfl) (fun _ _ _ h => h) (Or.inl ⟨by rfl, ?_⟩) hHeld ?_
  rotate_left
  · intro w hSw; obtain ⟨hS0, hS1, hS2, hS3, hS4, hS5⟩ := hSw; go_simp; try with_reducible rfl
  try go_simp
  refine wpAnyH_take (i := 27) (v := ?_) rfl (by kernel_rfl) (by kernel_rfl) (by kernel_rfl) (fun _ _ _ h => h) (Or.inl ⟨by rfl, ?_⟩) hHeld ?_
  rotate_left
  · intro w hSw; obtain ⟨hS0, hS1, hS2, hS3, hS4, hS5⟩ := hSw; go_simp; try with_reducible rfl
  try go_simp
  refine wpAnyH_done (by kernel_rfl) ?_ _
  go_wp2
  go_ret
  exact ⟨rfl, hB_w7⟩
set_option maxHeartbeats 1000000 in
set_option maxRecDepth 100000 in
theorem valid_arg (n r now size rate : Int) (w : World) (hS : Pc.send n r now size rate = (0, 0, 1)) : Calls Try.prog 6 #[.agg #[.int .i64 n, .int .i64 r], .int .i64 now, .int .i64 size, .int .i64 rate] w fun e w' => e = .returned (.bool true) ∧ Below w.heap.size w w' := by
  have HS := Lib.hid hS
  clear hS
  go_enter Try.func6, Try.ntmps6
  go_wp2_with fail
  refine (head_ok _).mono ?_
  rintro e w1 ⟨rfl, hb_w1⟩
  have hB_w1 : Below w.heap.size w w1 := below_on (by (repeat (first | exact Below.refl _ _ | refine below_drawn ?_ | refine below_drawnN ?_ _ | refine below_new ?_ _))) hb_w1
  have hz_w1 := hb_w1.size
  try simp only [World.size_setCell] at hz_w1
  try simp only [World.size_drew] at hz_w1
  try simp only [World.size_drewN] at hz_w1
  try simp only [World.size_alloc] at hz_w1
  try simp only [World.size_setCell] at hz_w1
  try simp only [World.size_drew] at hz_w1
  try simp only [World.size_drewN] at hz_w1
  try simp only [World.size_alloc] at hz_w1
  have hl0_w1 : w.heap.size < w1.heap.size := by omega
  have c0_w1 : w1.cell? ⟨w.heap.size, 0, none⟩ = some (.int .i64 n) := below_cell_of hb_w1 (by first | (go_simp; done))
  have c1_w1 : w1.cell? ⟨w.heap.size, 1, none⟩ = some (.int .i64 r) := below_cell_of hb_w1 (by first | (go_simp; done))
  go_wp2_with fail
  refine (send_any n r now size rate _).mono ?_
  rw [HS.out]
  rintro e w2 ⟨rfl, hb_w2⟩
  have hB_w2 : Below w.heap.size w w2 := below_on (by first | ((repeat (first | exact Below.refl _ _ | refine below_drawn ?_ | refine below_drawnN ?_ _ | refine below_new ?_ _)); done) | (refine below_on hB_w1 ?_; (repeat (first | exact Below.refl _ _ | refine below_drawn ?_ | refine below_drawnN ?_ _ | refine below_new ?_ _)))) hb_w2
  have hz_w2 := hb_w2.size
  try simp only [World.size_setCell] at hz_w2
  try simp only [World.size_drew] at hz_w2
  try simp only [World.size_drewN] at hz_w2
  try simp only [World.size_alloc] at hz_w2
  try simp only [World.size_setCell] at hz_w2
  try simp only [World.size_drew] at hz_w2
  try simp only [World.size_drewN] at hz_w2
  try simp only [World.size_alloc] at hz_w2
  have hl0_w2 : w.heap.size < w2.heap.size := by omega
  have c0_w2 : w2.cell? ⟨w.heap.size, 0, none⟩ = some (.int .i64 n) := below_cell_of hb_w2 (by first | (go_simp; done) | (refine below_cell_of (w := w1) ?_ (by first | assumption | (go_simp; done)); (repeat (first | exact Below.refl _ _ | refine below_drawn ?_ | refine below_drawnN ?_ _ | refine below_new ?_ _))))
  have c1_w2 : w2.cell? ⟨w.heap.size, 1, none⟩ = some (.int .i64 r) := below_cell_of hb_w2 (by first | (go_simp; done) | (refine below_cell_of (w := w1) ?_ (by first | assumption | (go_simp; done)); (repeat (first | exact Below.refl _ _ | refine below_drawn ?_ | refine below_drawnN ?_ _ | refine below_new ?_ _))))
  go_wp2_with fail
  refine (rready_any n r now _).mono ?_
  rintro e w3 ⟨rfl, hb_w3⟩
  have hB_w3 : Below w.heap.size w w3 := below_on (by first | ((repeat (first | exact Below.refl _ _ | refine below_drawn ?_ | refine below_drawnN ?_ _ | refine below_new ?_ _)); done) | (refine below_on hB_w2 ?_; (repeat (first | exact Below.refl _ _ | refine below_drawn ?_ | refine below_drawnN ?_ _ | refine below_new ?_ _)))) hb_w3
  have hz_w3 := hb_w3.size
  try simp only [World.size_setCell] at hz_w3
  try simp only [World.size_drew] at hz_w3
  try simp only [World.size_drewN] at hz_w3
  try simp only [World.size_alloc] at hz_w3
  try simp only [World.size_setCell] at hz_w3
  try simp only [World.size_drew] at hz_w3
  try simp only [World.size_drewN] at hz_w3
  try simp only [World.size_alloc] at hz_w3
  have hl0_w3 : w.heap.size < w3.heap.size := by omega
  have hl1_w3 : w2.heap.size < w3.heap.size := by omega
  have c0_w3 : w3.cell? ⟨w.heap.size, 0, none⟩ = some (.int .i64 n) := below_cell_of hb_w3 (by first | (go_simp; done) | (refine below_cell_of (w := w2) ?_ (by first | assumption | (go_simp; done)); (repeat (first | exact Below.refl _ _ | refine below_drawn ?_ | refine below_drawnN ?_ _ | refine below_new ?_ _))))
  have c1_w3 : w3.cell? ⟨w.heap.size, 1, none⟩ = some (.int .i64 r) := below_cell_of hb_w3 (by first | (go_simp; done) | (refine below_cell_of (w := w2) ?_ (by first | assumption | (go_simp; done)); (repeat (first | exact Below.refl _ _ | refine below_drawn ?_ | refine below_drawnN ?_ _ | refine below_new ?_ _))))
  have d0_w3 : w3.cell? ⟨w2.heap.size, 0, none⟩ = some (.int .i64 0) := below_cell_of hb_w3 (by first | (go_simp; done) | (refine below_cell_of (w := w2) ?_ (by first | assumption | (go_simp; done)); (repeat (first | exact Below.refl _ _ | refine below_drawn ?_ | refine below_drawnN ?_ _ | refine below_new ?_ _))))
  have d1_w3 : w3.cell? ⟨w2.heap.size, 1, none⟩ = some (.int .i64 0) := below_cell_of hb_w3 (by first | (go_simp; done) | (refine below_cell_of (w := w2) ?_ (by first | assumption | (go_simp; done)); (repeat (first | exact Below.refl _ _ | refine below_drawn ?_ | refine below_drawnN ?_ _ | refine below_new ?_ _))))
  go_wp2
  go_ret
  exact ⟨rfl, by first | exact hB_w3 | exact below_new hB_w3 _⟩
set_option maxHeartbeats 1000000 in
set_option maxRecDepth 100000 in
theorem valid_time (n r now size rate : Int) (w : World) (hS : Pc.send n r now size rate = (0, 0, 18)) (hR : Pc.readyB n r now = false) : Calls Try.prog 6 #[.agg #[.int .i64 n, .int .i64 r], .int .i64 now, .int .i64 size, .int .i64 rate] w fun e w' => e = .returned (.bool true) ∧ Below w.heap.size w w' := by
  have HS := Lib.hid hS
  clear hS
  have HR := Lib.hid hR
  clear hR
  go_enter Try.func6, Try.ntmps6
  go_wp2_with fail
  refine (head_ok _).mono ?_
  rintro e w1 ⟨rfl, hb_w1⟩
  have hB_w1 : Below w.heap.size w w1 := below_on (by (repeat (first | exact Below.refl _ _ | refine below_drawn ?_ | refine below_drawnN ?_ _ | refine below_new ?_ _))) hb_w1
  have hz_w1 := hb_w1.size
  try simp only [World.size_setCell] at hz_w1
  try simp only [World.size_drew] at hz_w1
  try simp only [World.size_drewN] at hz_w1
  try simp only [World.size_alloc] at hz_w1
  try simp only [World.size_setCell] at hz_w1
  try simp only [World.size_drew] at hz_w1
  try simp only [World.size_drewN] at hz_w1
  try simp only [World.size_alloc] at hz_w1
  have hl0_w1 : w.heap.size < w1.heap.size := by omega
  have c0_w1 : w1.cell? ⟨w.heap.size, 0, none⟩ = some (.int .i64 n) := below_cell_of hb_w1 (by first | (go_simp; done))
  have c1_w1 : w1.cell? ⟨w.heap.size, 1, none⟩ = some (.int .i64 r) := below_cell_of hb_w1 (by first | (go_simp; done))
  go_wp2_with fail
  refine (send_any n r now size rate _).mono ?_
  rw [HS.out]
  rintro e w2 ⟨rfl, hb_w2⟩
  have hB_w2 : Below w.heap.size w w2 := below_on (by first | ((repeat (first | exact Below.refl _ _ | refine below_drawn ?_ | refine below_drawnN ?_ _ | refine below_new ?_ _)); done) | (refine below_on hB_w1 ?_; (repeat (first | exact Below.refl _ _ | refine below_drawn ?_ | refine below_drawnN ?_ _ | refine below_new ?_ _)))) hb_w2
  have hz_w2 := hb_w2.size
  try simp only [World.size_setCell] at hz_w2
  try simp only [World.size_drew] at hz_w2
  try simp only [World.size_drewN] at hz_w2
  try simp only [World.size_alloc] at hz_w2
  try simp only [World.size_setCell] at hz_w2
  try simp only [World.size_drew] at hz_w2
  try simp only [World.size_drewN] at hz_w2
  try simp only [World.size_alloc] at hz_w2
  have hl0_w2 : w.heap.size < w2.heap.size := by omega
  have c0_w2 : w2.cell? ⟨w.heap.size, 0, none⟩ = some (.int .i64 n) := below_cell_of hb_w2 (by first | (go_simp; done) | (refine below_cell_of (w := w1) ?_ (by first | assumption | (go_simp; done)); (repeat (first | exact Below.refl _ _ | refine below_drawn ?_ | refine below_drawnN ?_ _ | refine below_new ?_ _))))
  have c1_w2 : w2.cell? ⟨w.heap.size, 1, none⟩ = some (.int .i64 r) := below_cell_of hb_w2 (by first | (go_simp; done) | (refine below_cell_of (w := w1) ?_ (by first | assumption | (go_simp; done)); (repeat (first | exact Below.refl _ _ | refine below_drawn ?_ | refine below_drawnN ?_ _ | refine below_new ?_ _))))
  go_wp2_with fail
  refine (rready_any n r now _).mono ?_
  rw [HR.out]
  rintro e w3 ⟨rfl, hb_w3⟩
  have hB_w3 : Below w.heap.size w w3 := below_on (by first | ((repeat (first | exact Below.refl _ _ | refine below_drawn ?_ | refine below_drawnN ?_ _ | refine below_new ?_ _)); done) | (refine below_on hB_w2 ?_; (repeat (first | exact Below.refl _ _ | refine below_drawn ?_ | refine below_drawnN ?_ _ | refine below_new ?_ _)))) hb_w3
  have hz_w3 := hb_w3.size
  try simp only [World.size_setCell] at hz_w3
  try simp only [World.size_drew] at hz_w3
  try simp only [World.size_drewN] at hz_w3
  try simp only [World.size_alloc] at hz_w3
  try simp only [World.size_setCell] at hz_w3
  try simp only [World.size_drew] at hz_w3
  try simp only [World.size_drewN] at hz_w3
  try simp only [World.size_alloc] at hz_w3
  have hl0_w3 : w.heap.size < w3.heap.size := by omega
  have hl1_w3 : w2.heap.size < w3.heap.size := by omega
  have c0_w3 : w3.cell? ⟨w.heap.size, 0, none⟩ = some (.int .i64 n) := below_cell_of hb_w3 (by first | (go_simp; done) | (refine below_cell_of (w := w2) ?_ (by first | assumption | (go_simp; done)); (repeat (first | exact Below.refl _ _ | refine below_drawn ?_ | refine below_drawnN ?_ _ | refine below_new ?_ _))))
  have c1_w3 : w3.cell? ⟨w.heap.size, 1, none⟩ = some (.int .i64 r) := below_cell_of hb_w3 (by first | (go_simp; done) | (refine below_cell_of (w := w2) ?_ (by first | assumption | (go_simp; done)); (repeat (first | exact Below.refl _ _ | refine below_drawn ?_ | refine below_drawnN ?_ _ | refine below_new ?_ _))))
  have d0_w3 : w3.cell? ⟨w2.heap.size, 0, none⟩ = some (.int .i64 0) := below_cell_of hb_w3 (by first | (go_simp; done) | (refine below_cell_of (w := w2) ?_ (by first | assumption | (go_simp; done)); (repeat (first | exact Below.refl _ _ | refine below_drawn ?_ | refine below_drawnN ?_ _ | refine below_new ?_ _))))
  have d1_w3 : w3.cell? ⟨w2.heap.size, 1, none⟩ = some (.int .i64 0) := below_cell_of hb_w3 (by first | (go_simp; done) | (refine below_cell_of (w := w2) ?_ (by first | assumption | (go_simp; done)); (repeat (first | exact Below.refl _ _ | refine below_drawn ?_ | refine below_drawnN ?_ _ | refine below_new ?_ _))))
  go_wp2
  go_ret
  exact ⟨rfl, by first | exact hB_w3 | exact below_new hB_w3 _⟩
set_option maxHeartbeats 1000000 in
set_option maxRecDepth 100000 in
theorem valid_zero (n r now size rate a b : Int) (w : World) (hS : Pc.send n r now size rate = (a, b, 0)) (hR : Pc.readyB n r now = true) (hV : Pc.validB a b = true) (hb : b < rate) (hn : now ≤ a) (ha : a = 0)  (h2 : Pc.readyB a b a = true) : Calls Try.prog 6 #[.agg #[.int .i64 n, .int .i64 r], .int .i64 now, .int .i64 size, .int .i64 rate] w fun e w' => e = .returned (.bool true) ∧ Below w.heap.size w w' := by
  have hv := (Pc.validB_iff a b).1 hV
  obtain ⟨hv0, hv1, hv2, hv3⟩ := hv
  have HS := Lib.hid hS
  clear hS
  have HR := Lib.hid hR
  clear hR
  have HV := Lib.hid hV
  clear hV
  have H2 := Lib.hid h2
  clear h2
  subst ha
  go_enter Try.func6, Try.ntmps6
  go_wp2_with fail
  refine (head_ok _).mono ?_
  rintro e w1 ⟨rfl, hb_w1⟩
  have hB_w1 : Below w.heap.size w w1 := below_on (by (repeat (first | exact Below.refl _ _ | refine below_drawn ?_ | refine below_drawnN ?_ _ | refine below_new ?_ _))) hb_w1
  have hz_w1 := hb_w1.size
  try simp only [World.size_setCell] at hz_w1
  try simp only [World.size_drew] at hz_w1
  try simp only [World.size_drewN] at hz_w1
  try simp only [World.size_alloc] at hz_w1
  try simp only [World.size_setCell] at hz_w1
  try simp only [World.size_drew] at hz_w1
  try simp only [World.size_drewN] at hz_w1
  try simp only [World.size_alloc] at hz_w1
  have hl0_w1 : w.heap.size < w1.heap.size := by omega
  have c0_w1 : w1.cell? ⟨w.heap.size, 0, none⟩ = some (.int .i64 n) := below_cell_of hb_w1 (by first | (go_simp; done))
  have c1_w1 : w1.cell? ⟨w.heap.size, 1, none⟩ = some (.int .i64 r) := below_cell_of hb_w1 (by first | (go_simp; done))
  go_wp2_with fail
  refine (send_any n r now size rate _).mono ?_
  rw [HS.out]
  rintro e w2 ⟨rfl, hb_w2⟩
  have hB_w2 : Below w.heap.size w w2 := below_on (by first | ((repeat (first | exact Below.refl _ _ | refine below_drawn ?_ | refine below_drawnN ?_ _ | refine below_new ?_ _)); done) | (refine below_on hB_w1 ?_; (repeat (first | exact Below.refl _ _ | refine below_drawn ?_ | refine below_drawnN ?_ _ | refine below_new ?_ _)))) hb_w2
  have hz_w2 := hb_w2.size
  try simp only [World.size_setCell] at hz_w2
  try simp only [World.size_drew] at hz_w2
  try simp only [World.size_drewN] at hz_w2
  try simp only [World.size_alloc] at hz_w2
  try simp only [World.size_setCell] at hz_w2
  try simp only [World.size_drew] at hz_w2
  try simp only [World.size_drewN] at hz_w2
  try simp only [World.size_alloc] at hz_w2
  have hl0_w2 : w.heap.size < w2.heap.size := by omega
  have c0_w2 : w2.cell? ⟨w.heap.size, 0, none⟩ = some (.int .i64 n) := below_cell_of hb_w2 (by first | (go_simp; done) | (refine below_cell_of (w := w1) ?_ (by first | assumption | (go_simp; done)); (repeat (first | exact Below.refl _ _ | refine below_drawn ?_ | refine below_drawnN ?_ _ | refine below_new ?_ _))))
  have c1_w2 : w2.cell? ⟨w.heap.size, 1, none⟩ = some (.int .i64 r) := below_cell_of hb_w2 (by first | (go_simp; done) | (refine below_cell_of (w := w1) ?_ (by first | assumption | (go_simp; done)); (repeat (first | exact Below.refl _ _ | refine below_drawn ?_ | refine below_drawnN ?_ _ | refine below_new ?_ _))))
  go_wp2_with fail
  refine (rready_any n r now _).mono ?_
  rw [HR.out]
  rintro e w3 ⟨rfl, hb_w3⟩
  have hB_w3 : Below w.heap.size w w3 := below_on (by first | ((repeat (first | exact Below.refl _ _ | refine below_drawn ?_ | refine below_drawnN ?_ _ | refine below_new ?_ _)); done) | (refine below_on hB_w2 ?_; (repeat (first | exact Below.refl _ _ | refine below_drawn ?_ | refine below_drawnN ?_ _ | refine below_new ?_ _)))) hb_w3
  have hz_w3 := hb_w3.size
  try simp only [World.size_setCell] at hz_w3
  try simp only [World.size_drew] at hz_w3
  try simp only [World.size_drewN] at hz_w3
  try simp only [World.size_alloc] at hz_w3
  try simp only [World.size_setCell] at hz_w3
  try simp only [World.size_drew] at hz_w3
  try simp only [World.size_drewN] at hz_w3
  try simp only [World.size_alloc] at hz_w3
  have hl0_w3 : w.heap.size < w3.heap.size := by omega
  have hl1_w3 : w2.heap.size < w3.heap.size := by omega
  have c0_w3 : w3.cell? ⟨w.heap.size, 0, none⟩ = some (.int .i64 n) := below_cell_of hb_w3 (by first | (go_simp; done) | (refine below_cell_of (w := w2) ?_ (by first | assumption | (go_simp; done)); (repeat (first | exact Below.refl _ _ | refine below_drawn ?_ | refine below_drawnN ?_ _ | refine below_new ?_ _))))
  have c1_w3 : w3.cell? ⟨w.heap.size, 1, none⟩ = some (.int .i64 r) := below_cell_of hb_w3 (by first | (go_simp; done) | (refine below_cell_of (w := w2) ?_ (by first | assumption | (go_simp; done)); (repeat (first | exact Below.refl _ _ | refine below_drawn ?_ | refine below_drawnN ?_ _ | refine below_new ?_ _))))
  have d0_w3 : w3.cell? ⟨w2.heap.size, 0, none⟩ = some (.int .i64 0) := below_cell_of hb_w3 (by first | (go_simp; done) | (refine below_cell_of (w := w2) ?_ (by first | assumption | (go_simp; done)); (repeat (first | exact Below.refl _ _ | refine below_drawn ?_ | refine below_drawnN ?_ _ | refine below_new ?_ _))))
  have d1_w3 : w3.cell? ⟨w2.heap.size, 1, none⟩ = some (.int .i64 b) := below_cell_of hb_w3 (by first | (go_simp; done) | (refine below_cell_of (w := w2) ?_ (by first | assumption | (go_simp; done)); (repeat (first | exact Below.refl _ _ | refine below_drawn ?_ | refine below_drawnN ?_ _ | refine below_new ?_ _))))
  go_wp2_with fail
  refine (rvalid_any 0 b _).mono ?_
  rw [HV.out]
  rintro e w4 ⟨rfl, hb_w4⟩
  have hB_w4 : Below w.heap.size w w4 := below_on (by first | ((repeat (first | exact Below.refl _ _ | refine below_drawn ?_ | refine below_drawnN ?_ _ | refine below_new ?_ _)); done) | (refine below_on hB_w3 ?_; (repeat (first | exact Below.refl _ _ | refine below_drawn ?_ | refine below_drawnN ?_ _ | refine below_new ?_ _)))) hb_w4
  have hz_w4 := hb_w4.size
  try simp only [World.size_setCell] at hz_w4
  try simp only [World.size_drew] at hz_w4
  try simp only [World.size_drewN] at hz_w4
  try simp only [World.size_alloc] at hz_w4
  try simp only [World.size_setCell] at hz_w4
  try simp only [World.size_drew] at hz_w4
  try simp only [World.size_drewN] at hz_w4
  try simp only [World.size_alloc] at hz_w4
  have hl0_w4 : w.heap.size < w4.heap.size := by omega
  have hl1_w4 : w2.heap.size < w4.heap.size := by omega
  have c0_w4 : w4.cell? ⟨w.heap.size, 0, none⟩ = some (.int .i64 n) := below_cell_of hb_w4 (by first | (go_simp; done) | (refine below_cell_of (w := w3) ?_ (by first | assumption | (go_simp; done)); (repeat (first | exact Below.refl _ _ | refine below_drawn ?_ | refine below_drawnN ?_ _ | refine below_new ?_ _))))
  have c1_w4 : w4.cell? ⟨w.heap.size, 1, none⟩ = some (.int .i64 r) := below_cell_of hb_w4 (by first | (go_simp; done) | (refine below_cell_of (w := w3) ?_ (by first | assumption | (go_simp; done)); (repeat (first | exact Below.refl _ _ | refine below_drawn ?_ | refine below_drawnN ?_ _ | refine below_new ?_ _))))
  have d0_w4 : w4.cell? ⟨w2.heap.size, 0, none⟩ = some (.int .i64 0) := below_cell_of hb_w4 (by first | (go_simp; done) | (refine below_cell_of (w := w3) ?_ (by first | assumption | (go_simp; done)); (repeat (first | exact Below.refl _ _ | refine below_drawn ?_ | refine below_drawnN ?_ _ | refine below_new ?_ _))))
  have d1_w4 : w4.cell? ⟨w2.heap.size, 1, none⟩ = some (.int .i64 b) := below_cell_of hb_w4 (by first | (go_simp; done) | (refine below_cell_of (w := w3) ?_ (by first | assumption | (go_simp; done)); (repeat (first | exact Below.refl _ _ | refine below_drawn ?_ | refine below_drawnN ?_ _ | refine below_new ?_ _))))
  go_wp2_with fail
  refine (ready_any 0 b 0 _).mono ?_
  rw [H2.out]
  rintro e w5 ⟨rfl, hb_w5⟩
  have hB_w5 : Below w.heap.size w w5 := below_on (by first | ((repeat (first | exact Below.refl _ _ | refine below_drawn ?_ | refine below_drawnN ?_ _ | refine below_new ?_ _)); done) | (refine below_on hB_w4 ?_; (repeat (first | exact Below.refl _ _ | refine below_drawn ?_ | refine below_drawnN ?_ _ | refine below_new ?_ _)))) hb_w5
  have hz_w5 := hb_w5.size
  try simp only [World.size_setCell] at hz_w5
  try simp only [World.size_drew] at hz_w5
  try simp only [World.size_drewN] at hz_w5
  try simp only [World.size_alloc] at hz_w5
  try simp only [World.size_setCell] at hz_w5
  try simp only [World.size_drew] at hz_w5
  try simp only [World.size_drewN] at hz_w5
  try simp only [World.size_alloc] at hz_w5
  have hl0_w5 : w.heap.size < w5.heap.size := by omega
  have hl1_w5 : w2.heap.size < w5.heap.size := by omega
  have c0_w5 : w5.cell? ⟨w.heap.size, 0, none⟩ = some (.int .i64 n) := below_cell_of hb_w5 (by first | (go_simp; done) | (refine below_cell_of (w := w4) ?_ (by first | assumption | (go_simp; done)); (repeat (first | exact Below.refl _ _ | refine below_drawn ?_ | refine below_drawnN ?_ _ | refine below_new ?_ _))))
  have c1_w5 : w5.cell? ⟨w.heap.size, 1, none⟩ = some (.int .i64 r) := below_cell_of hb_w5 (by first | (go_simp; done) | (refine below_cell_of (w := w4) ?_ (by first | assumption | (go_simp; done)); (repeat (first | exact Below.refl _ _ | refine below_drawn ?_ | refine below_drawnN ?_ _ | refine below_new ?_ _))))
  have d0_w5 : w5.cell? ⟨w2.heap.size, 0, none⟩ = some (.int .i64 0) := below_cell_of hb_w5 (by first | (go_simp; done) | (refine below_cell_of (w := w4) ?_ (by first | assumption | (go_simp; done)); (repeat (first | exact Below.refl _ _ | refine below_drawn ?_ | refine below_drawnN ?_ _ | refine below_new ?_ _))))
  have d1_w5 : w5.cell? ⟨w2.heap.size, 1, none⟩ = some (.int .i64 b) := below_cell_of hb_w5 (by first | (go_simp; done) | (refine below_cell_of (w := w4) ?_ (by first | assumption | (go_simp; done)); (repeat (first | exact Below.refl _ _ | refine below_drawn ?_ | refine below_drawnN ?_ _ | refine below_new ?_ _))))
  go_wp2
  go_ret
  exact ⟨rfl, by first | exact hB_w5 | exact below_new hB_w5 _⟩
set_option maxHeartbeats 1000000 in
set_option maxRecDepth 100000 in
theorem valid_mid (n r now size rate a b : Int) (w : World) (hS : Pc.send n r now size rate = (a, b, 0)) (hR : Pc.readyB n r now = true) (hV : Pc.validB a b = true) (hb : b < rate) (hn : now ≤ a) (ha : 0 < a) (ha2 : a ≤ 20000000) (h1 : Pc.readyB a b (a - 1) = false) (h2 : Pc.readyB a b a = true) : Calls Try.prog 6 #[.agg #[.int .i64 n, .int .i64 r], .int .i64 now, .int .i64 size, .int .i64 rate] w fun e w' => e = .returned (.bool true) ∧ Below w.heap.size w w' := by
  have hv := (Pc.validB_iff a b).1 hV
  obtain ⟨hv0, hv1, hv2, hv3⟩ := hv
  have HS := Lib.hid hS
  clear hS
  have HR := Lib.hid hR
  clear hR
  have HV := Lib.hid hV
  clear hV
  have H1 := Lib.hid h1
  clear h1
  have H2 := Lib.hid h2
  clear h2
  go_enter Try.func6, Try.ntmps6
  go_wp2_with fail
  refine (head_ok _).mono ?_
  rintro e w1 ⟨rfl, hb_w1⟩
  have hB_w1 : Below w.heap.size w w1 := below_on (by (repeat (first | exact Below.refl _ _ | refine below_drawn ?_ | refine below_drawnN ?_ _ | refine below_new ?_ _))) hb_w1
  have hz_w1 := hb_w1.size
  try simp only [World.size_setCell] at hz_w1
  try simp only [World.size_drew] at hz_w1
  try simp only [World.size_drewN] at hz_w1
  try simp only [World.size_alloc] at hz_w1
  try simp only [World.size_setCell] at hz_w1
  try simp only [World.size_drew] at hz_w1
  try simp only [World.size_drewN] at hz_w1
  try simp only [World.size_alloc] at hz_w1
  have hl0_w1 : w.heap.size < w1.heap.size := by omega
  have c0_w1 : w1.cell? ⟨w.heap.size, 0, none⟩ = some (.int .i64 n) := below_cell_of hb_w1 (by first | (go_simp; done))
  have c1_w1 : w1.cell? ⟨w.heap.size, 1, none⟩ = some (.int .i64 r) := below_cell_of hb_w1 (by first | (go_simp; done))
  go_wp2_with fail
  refine (send_any n r now size rate _).mono ?_
  rw [HS.out]
  rintro e w2 ⟨rfl, hb_w2⟩
  have hB_w2 : Below w.heap.size w w2 := below_on (by first | ((repeat (first | exact Below.refl _ _ | refine below_drawn ?_ | refine below_drawnN ?_ _ | refine below_new ?_ _)); done) | (refine below_on hB_w1 ?_; (repeat (first | exact Below.refl _ _ | refine below_drawn ?_ | refine below_drawnN ?_ _ | refine below_new ?_ _)))) hb_w2
  have hz_w2 := hb_w2.size
  try simp only [World.size_setCell] at hz_w2
  try simp only [World.size_drew] at hz_w2
  try simp only [World.size_drewN] at hz_w2
  try simp only [World.size_alloc] at hz_w2
  try simp only [World.size_setCell] at hz_w2
  try simp only [World.size_drew] at hz_w2
  try simp only [World.size_drewN] at hz_w2
  try simp only [World.size_alloc] at hz_w2
  have hl0_w2 : w.heap.size < w2.heap.size := by omega
  have c0_w2 : w2.cell? ⟨w.heap.size, 0, none⟩ = some (.int .i64 n) := below_cell_of hb_w2 (by first | (go_simp; done) | (refine below_cell_of (w := w1) ?_ (by first | assumption | (go_simp; done)); (repeat (first | exact Below.refl _ _ | refine below_drawn ?_ | refine below_drawnN ?_ _ | refine below_new ?_ _))))
  have c1_w2 : w2.cell? ⟨w.heap.size, 1, none⟩ = some (.int .i64 r) := below_cell_of hb_w2 (by first | (go_simp; done) | (refine below_cell_of (w := w1) ?_ (by first | assumption | (go_simp; done)); (repeat (first | exact Below.refl _ _ | refine below_drawn ?_ | refine below_drawnN ?_ _ | refine below_new ?_ _))))
  go_wp2_with fail
  refine (rready_any n r now _).mono ?_
  rw [HR.out]
  rintro e w3 ⟨rfl, hb_w3⟩
  have hB_w3 : Below w.heap.size w w3 := below_on (by first | ((repeat (first | exact Below.refl _ _ | refine below_drawn ?_ | refine below_drawnN ?_ _ | refine below_new ?_ _)); done) | (refine below_on hB_w2 ?_; (repeat (first | exact Below.refl _ _ | refine below_drawn ?_ | refine below_drawnN ?_ _ | refine below_new ?_ _)))) hb_w3
  have hz_w3 := hb_w3.size
  try simp only [World.size_setCell] at hz_w3
  try simp only [World.size_drew] at hz_w3
  try simp only [World.size_drewN] at hz_w3
  try simp only [World.size_alloc] at hz_w3
  try simp only [World.size_setCell] at hz_w3
  try simp only [World.size_drew] at hz_w3
  try simp only [World.size_drewN] at hz_w3
  try simp only [World.size_alloc] at hz_w3
  have hl0_w3 : w.heap.size < w3.heap.size := by omega
  have hl1_w3 : w2.heap.size < w3.heap.size := by omega
  have c0_w3 : w3.cell? ⟨w.heap.size, 0, none⟩ = some (.int .i64 n) := below_cell_of hb_w3 (by first | (go_simp; done) | (refine below_cell_of (w := w2) ?_ (by first | assumption | (go_simp; done)); (repeat (first | exact Below.refl _ _ | refine below_drawn ?_ | refine below_drawnN ?_ _ | refine below_new ?_ _))))
  have c1_w3 : w3.cell? ⟨w.heap.size, 1, none⟩ = some (.int .i64 r) := below_cell_of hb_w3 (by first | (go_simp; done) | (refine below_cell_of (w := w2) ?_ (by first | assumption | (go_simp; done)); (repeat (first | exact Below.refl _ _ | refine below_drawn ?_ | refine below_drawnN ?_ _ | refine below_new ?_ _))))
  have d0_w3 : w3.cell? ⟨w2.heap.size, 0, none⟩ = some (.int .i64 a) := below_cell_of hb_w3 (by first | (go_simp; done) | (refine below_cell_of (w := w2) ?_ (by first | assumption | (go_simp; done)); (repeat (first | exact Below.refl _ _ | refine below_drawn ?_ | refine below_drawnN ?_ _ | refine below_new ?_ _))))
  have d1_w3 : w3.cell? ⟨w2.heap.size, 1, none⟩ = some (.int .i64 b) := below_cell_of hb_w3 (by first | (go_simp; done) | (refine below_cell_of (w := w2) ?_ (by first | assumption | (go_simp; done)); (repeat (first | exact Below.refl _ _ | refine below_drawn ?_ | refine below_drawnN ?_ _ | refine below_new ?_ _))))
  go_wp2_with fail
  refine (rvalid_any a b _).mono ?_
  rw [HV.out]
  rintro e w4 ⟨rfl, hb_w4⟩
  have hB_w4 : Below w.heap.size w w4 := below_on (by first | ((repeat (first | exact Below.refl _ _ | refine below_drawn ?_ | refine below_drawnN ?_ _ | refine below_new ?_ _)); done) | (refine below_on hB_w3 ?_; (repeat (first | exact Below.refl _ _ | refine below_drawn ?_ | refine below_drawnN ?_ _ | refine below_new ?_ _)))) hb_w4
  have hz_w4 := hb_w4.size
  try simp only [World.size_setCell] at hz_w4
  try simp only [World.size_drew] at hz_w4
  try simp only [World.size_drewN] at hz_w4
  try simp only [World.size_alloc] at hz_w4
  try simp only [World.size_setCell] at hz_w4
  try simp only [World.size_drew] at hz_w4
  try simp only [World.size_drewN] at hz_w4
  try simp only [World.size_alloc] at hz_w4
  have hl0_w4 : w.heap.size < w4.heap.size := by omega
  have hl1_w4 : w2.heap.size < w4.heap.size := by omega
  have c0_w4 : w4.cell? ⟨w.heap.size, 0, none⟩ = some (.int .i64 n) := below_cell_of hb_w4 (by first | (go_simp; done) | (refine below_cell_of (w := w3) ?_ (by first | assumption | (go_simp; done)); (repeat (first | exact Below.refl _ _ | refine below_drawn ?_ | refine below_drawnN ?_ _ | refine below_new ?_ _))))
  have c1_w4 : w4.cell? ⟨w.heap.size, 1, none⟩ = some (.int .i64 r) := below_cell_of hb_w4 (by first | (go_simp; done) | (refine below_cell_of (w := w3) ?_ (by first | assumption | (go_simp; done)); (repeat (first | exact Below.refl _ _ | refine below_drawn ?_ | refine below_drawnN ?_ _ | refine below_new ?_ _))))
  have d0_w4 : w4.cell? ⟨w2.heap.size, 0, none⟩ = some (.int .i64 a) := below_cell_of hb_w4 (by first | (go_simp; done) | (refine below_cell_of (w := w3) ?_ (by first | assumption | (go_simp; done)); (repeat (first | exact Below.refl _ _ | refine below_drawn ?_ | refine below_drawnN ?_ _ | refine below_new ?_ _))))
  have d1_w4 : w4.cell? ⟨w2.heap.size, 1, none⟩ = some (.int .i64 b) := below_cell_of hb_w4 (by first | (go_simp; done) | (refine below_cell_of (w := w3) ?_ (by first | assumption | (go_simp; done)); (repeat (first | exact Below.refl _ _ | refine below_drawn ?_ | refine below_drawnN ?_ _ | refine below_new ?_ _))))
  go_wp2_with fail
  refine (ready_any a b (a - 1) _).mono ?_
  rw [H1.out]
  rintro e w5 ⟨rfl, hb_w5⟩
  have hB_w5 : Below w.heap.size w w5 := below_on (by first | ((repeat (first | exact Below.refl _ _ | refine below_drawn ?_ | refine below_drawnN ?_ _ | refine below_new ?_ _)); done) | (refine below_on hB_w4 ?_; (repeat (first | exact Below.refl _ _ | refine below_drawn ?_ | refine below_drawnN ?_ _ | refine below_new ?_ _)))) hb_w5
  have hz_w5 := hb_w5.size
  try simp only [World.size_setCell] at hz_w5
  try simp only [World.size_drew] at hz_w5
  try simp only [World.size_drewN] at hz_w5
  try simp only [World.size_alloc] at hz_w5
  try simp only [World.size_setCell] at hz_w5
  try simp only [World.size_drew] at hz_w5
  try simp only [World.size_drewN] at hz_w5
  try simp only [World.size_alloc] at hz_w5
  have hl0_w5 : w.heap.size < w5.heap.size := by omega
  have hl1_w5 : w2.heap.size < w5.heap.size := by omega
  have c0_w5 : w5.cell? ⟨w.heap.size, 0, none⟩ = some (.int .i64 n) := below_cell_of hb_w5 (by first | (go_simp; done) | (refine below_cell_of (w := w4) ?_ (by first | assumption | (go_simp; done)); (repeat (first | exact Below.refl _ _ | refine below_drawn ?_ | refine below_drawnN ?_ _ | refine below_new ?_ _))))
  have c1_w5 : w5.cell? ⟨w.heap.size, 1, none⟩ = some (.int .i64 r) := below_cell_of hb_w5 (by first | (go_simp; done) | (refine below_cell_of (w := w4) ?_ (by first | assumption | (go_simp; done)); (repeat (first | exact Below.refl _ _ | refine below_drawn ?_ | refine below_drawnN ?_ _ | refine below_new ?_ _))))
  have d0_w5 : w5.cell? ⟨w2.heap.size, 0, none⟩ = some (.int .i64 a) := below_cell_of hb_w5 (by first | (go_simp; done) | (refine below_cell_of (w := w4) ?_ (by first | assumption | (go_simp; done)); (repeat (first | exact Below.refl _ _ | refine below_drawn ?_ | refine below_drawnN ?_ _ | refine below_new ?_ _))))
  have d1_w5 : w5.cell? ⟨w2.heap.size, 1, none⟩ = some (.int .i64 b) := below_cell_of hb_w5 (by first | (go_simp; done) | (refine below_cell_of (w := w4) ?_ (by first | assumption | (go_simp; done)); (repeat (first | exact Below.refl _ _ | refine below_drawn ?_ | refine below_drawnN ?_ _ | refine below_new ?_ _))))
  go_wp2_with fail
  refine (ready_any a b a _).mono ?_
  rw [H2.out]
  rintro e w6 ⟨rfl, hb_w6⟩
  have hB_w6 : Below w.heap.size w w6 := below_on (by first | ((repeat (first | exact Below.refl _ _ | refine below_drawn ?_ | refine below_drawnN ?_ _ | refine below_new ?_ _)); done) | (refine below_on hB_w5 ?_; (repeat (first | exact Below.refl _ _ | refine below_drawn ?_ | refine below_drawnN ?_ _ | refine below_new ?_ _)))) hb_w6
  have hz_w6 := hb_w6.size
  try simp only [World.size_setCell] at hz_w6
  try simp only [World.size_drew] at hz_w6
  try simp only [World.size_drewN] at hz_w6
  try simp only [World.size_alloc] at hz_w6
  try simp only [World.size_setCell] at hz_w6
  try simp only [World.size_drew] at hz_w6
  try simp only [World.size_drewN] at hz_w6
  try simp only [World.size_alloc] at hz_w6
  have hl0_w6 : w.heap.size < w6.heap.size := by omega
  have hl1_w6 : w2.heap.size < w6.heap.size := by omega
  have c0_w6 : w6.cell? ⟨w.heap.size, 0, none⟩ = some (.int .i64 n) := below_cell_of hb_w6 (by first | (go_simp; done) | (refine below_cell_of (w := w5) ?_ (by first | assumption | (go_simp; done)); (repeat (first | exact Below.refl _ _ | refine below_drawn ?_ | refine below_drawnN ?_ _ | refine below_new ?_ _))))
  have c1_w6 : w6.cell? ⟨w.heap.size, 1, none⟩ = some (.int .i64 r) := below_cell_of hb_w6 (by first | (go_simp; done) | (refine below_cell_of (w := w5) ?_ (by first | assumption | (go_simp; done)); (repeat (first | exact Below.refl _ _ | refine below_drawn ?_ | refine below_drawnN ?_ _ | refine below_new ?_ _))))
  have d0_w6 : w6.cell? ⟨w2.heap.size, 0, none⟩ = some (.int .i64 a) := below_cell_of hb_w6 (by first | (go_simp; done) | (refine below_cell_of (w := w5) ?_ (by first | assumption | (go_simp; done)); (repeat (first | exact Below.refl _ _ | refine below_drawn ?_ | refine below_drawnN ?_ _ | refine below_new ?_ _))))
  have d1_w6 : w6.cell? ⟨w2.heap.size, 1, none⟩ = some (.int .i64 b) := below_cell_of hb_w6 (by first | (go_simp; done) | (refine below_cell_of (w := w5) ?_ (by first | assumption | (go_simp; done)); (repeat (first | exact Below.refl _ _ | refine below_drawn ?_ | refine below_drawnN ?_ _ | refine below_new ?_ _))))
  go_wp2
  go_ret
  exact ⟨rfl, by first | exact hB_w6 | exact below_new hB_w6 _⟩
set_option maxHeartbeats 1000000 in
set_option maxRecDepth 100000 in
theorem valid_far (n r now size rate a b : Int) (w : World) (hS : Pc.send n r now size rate = (a, b, 0)) (hR : Pc.readyB n r now = true) (hV : Pc.validB a b = true) (hb : b < rate) (hn : now ≤ a) (ha : 20000000 < a) (h1 : Pc.readyB a b (a - 1) = false)  : Calls Try.prog 6 #[.agg #[.int .i64 n, .int .i64 r], .int .i64 now, .int .i64 size, .int .i64 rate] w fun e w' => e = .returned (.bool true) ∧ Below w.heap.size w w' := by
  have hv := (Pc.validB_iff a b).1 hV
  obtain ⟨hv0, hv1, hv2, hv3⟩ := hv
  have HS := Lib.hid hS
  clear hS
  have HR := Lib.hid hR
  clear hR
  have HV := Lib.hid hV
  clear hV
  have H1 := Lib.hid h1
  clear h1
  go_enter Try.func6, Try.ntmps6
  go_wp2_with fail
  refine (head_ok _).mono ?_
  rintro e w1 ⟨rfl, hb_w1⟩
  have hB_w1 : Below w.heap.size w w1 := below_on (by (repeat (first | exact Below.refl _ _ | refine below_drawn ?_ | refine below_drawnN ?_ _ | refine below_new ?_ _))) hb_w1
  have hz_w1 := hb_w1.size
  try simp only [World.size_setCell] at hz_w1
  try simp only [World.size_drew] at hz_w1
  try simp only [World.size_drewN] at hz_w1
  try simp only [World.size_alloc] at hz_w1
  try simp only [World.size_setCell] at hz_w1
  try simp only [World.size_drew] at hz_w1
  try simp only [World.size_drewN] at hz_w1
  try simp only [World.size_alloc] at hz_w1
  have hl0_w1 : w.heap.size < w1.heap.size := by omega
  have c0_w1 : w1.cell? ⟨w.heap.size, 0, none⟩ = some (.int .i64 n) := below_cell_of hb_w1 (by first | (go_simp; done))
  have c1_w1 : w1.cell? ⟨w.heap.size, 1, none⟩ = some (.int .i64 r) := below_cell_of hb_w1 (by first | (go_simp; done))
  go_wp2_with fail
  refine (send_any n r now size rate _).mono ?_
  rw [HS.out]
  rintro e w2 ⟨rfl, hb_w2⟩
  have hB_w2 : Below w.heap.size w w2 := below_on (by first | ((repeat (first | exact Below.refl _ _ | refine below_drawn ?_ | refine below_drawnN ?_ _ | refine below_new ?_ _)); done) | (refine below_on hB_w1 ?_; (repeat (first | exact Below.refl _ _ | refine below_drawn ?_ | refine below_drawnN ?_ _ | refine below_new ?_ _)))) hb_w2
  have hz_w2 := hb_w2.size
  try simp only [World.size_setCell] at hz_w2
  try simp only [World.size_drew] at hz_w2
  try simp only [World.size_drewN] at hz_w2
  try simp only [World.size_alloc] at hz_w2
  try simp only [World.size_setCell] at hz_w2
  try simp only [World.size_drew] at hz_w2
  try simp only [World.size_drewN] at hz_w2
  try simp only [World.size_alloc] at hz_w2
  have hl0_w2 : w.heap.size < w2.heap.size := by omega
  have c0_w2 : w2.cell? ⟨w.heap.size, 0, none⟩ = some (.int .i64 n) := below_cell_of hb_w2 (by first | (go_simp; done) | (refine below_cell_of (w := w1) ?_ (by first | assumption | (go_simp; done)); (repeat (first | exact Below.refl _ _ | refine below_drawn ?_ | refine below_drawnN ?_ _ | refine below_new ?_ _))))
  have c1_w2 : w2.cell? ⟨w.heap.size, 1, none⟩ = some (.int .i64 r) := below_cell_of hb_w2 (by first | (go_simp; done) | (refine below_cell_of (w := w1) ?_ (by first | assumption | (go_simp; done)); (repeat (first | exact Below.refl _ _ | refine below_drawn ?_ | refine below_drawnN ?_ _ | refine below_new ?_ _))))
  go_wp2_with fail
  refine (rready_any n r now _).mono ?_
  rw [HR.out]
  rintro e w3 ⟨rfl, hb_w3⟩
  have hB_w3 : Below w.heap.size w w3 := below_on (by first | ((repeat (first | exact Below.refl _ _ | refine below_drawn ?_ | refine below_drawnN ?_ _ | refine below_new ?_ _)); done) | (refine below_on hB_w2 ?_; (repeat (first | exact Below.refl _ _ | refine below_drawn ?_ | refine below_drawnN ?_ _ | refine below_new ?_ _)))) hb_w3
  have hz_w3 := hb_w3.size
  try simp only [World.size_setCell] at hz_w3
  try simp only [World.size_drew] at hz_w3
  try simp only [World.size_drewN] at hz_w3
  try simp only [World.size_alloc] at hz_w3
  try simp only [World.size_setCell] at hz_w3
  try simp only [World.size_drew] at hz_w3
  try simp only [World.size_drewN] at hz_w3
  try simp only [World.size_alloc] at hz_w3
  have hl0_w3 : w.heap.size < w3.heap.size := by omega
  have hl1_w3 : w2.heap.size < w3.heap.size := by omega
  have c0_w3 : w3.cell? ⟨w.heap.size, 0, none⟩ = some (.int .i64 n) := below_cell_of hb_w3 (by first | (go_simp; done) | (refine below_cell_of (w := w2) ?_ (by first | assumption | (go_simp; done)); (repeat (first | exact Below.refl _ _ | refine below_drawn ?_ | refine below_drawnN ?_ _ | refine below_new ?_ _))))
  have c1_w3 : w3.cell? ⟨w.heap.size, 1, none⟩ = some (.int .i64 r) := below_cell_of hb_w3 (by first | (go_simp; done) | (refine below_cell_of (w := w2) ?_ (by first | assumption | (go_simp; done)); (repeat (first | exact Below.refl _ _ | refine below_drawn ?_ | refine below_drawnN ?_ _ | refine below_new ?_ _))))
  have d0_w3 : w3.cell? ⟨w2.heap.size, 0, none⟩ = some (.int .i64 a) := below_cell_of hb_w3 (by first | (go_simp; done) | (refine below_cell_of (w := w2) ?_ (by first | assumption | (go_simp; done)); (repeat (first | exact Below.refl _ _ | refine below_drawn ?_ | refine below_drawnN ?_ _ | refine below_new ?_ _))))
  have d1_w3 : w3.cell? ⟨w2.heap.size, 1, none⟩ = some (.int .i64 b) := below_cell_of hb_w3 (by first | (go_simp; done) | (refine below_cell_of (w := w2) ?_ (by first | assumption | (go_simp; done)); (repeat (first | exact Below.refl _ _ | refine below_drawn ?_ | refine below_drawnN ?_ _ | refine below_new ?_ _))))
  go_wp2_with fail
  refine (rvalid_any a b _).mono ?_
  rw [HV.out]
  rintro e w4 ⟨rfl, hb_w4⟩
  have hB_w4 : Below w.heap.size w w4 := below_on (by first | ((repeat (first | exact Below.refl _ _ | refine below_drawn ?_ | refine below_drawnN ?_ _ | refine below_new ?_ _)); done) | (refine below_on hB_w3 ?_; (repeat (first | exact Below.refl _ _ | refine below_drawn ?_ | refine below_drawnN ?_ _ | refine below_new ?_ _)))) hb_w4
  have hz_w4 := hb_w4.size
  try simp only [World.size_setCell] at hz_w4
  try simp only [World.size_drew] at hz_w4
  try simp only [World.size_drewN] at hz_w4
  try simp only [World.size_alloc] at hz_w4
  try simp only [World.size_setCell] at hz_w4
  try simp only [World.size_drew] at hz_w4
  try simp only [World.size_drewN] at hz_w4
  try simp only [World.size_alloc] at hz_w4
  have hl0_w4 : w.heap.size < w4.heap.size := by omega
  have hl1_w4 : w2.heap.size < w4.heap.size := by omega
  have c0_w4 : w4.cell? ⟨w.heap.size, 0, none⟩ = some (.int .i64 n) := below_cell_of hb_w4 (by first | (go_simp; done) | (refine below_cell_of (w := w3) ?_ (by first | assumption | (go_simp; done)); (repeat (first | exact Below.refl _ _ | refine below_drawn ?_ | refine below_drawnN ?_ _ | refine below_new ?_ _))))
  have c1_w4 : w4.cell? ⟨w.heap.size, 1, none⟩ = some (.int .i64 r) := below_cell_of hb_w4 (by first | (go_simp; done) | (refine below_cell_of (w := w3) ?_ (by first | assumption | (go_simp; done)); (repeat (first | exact Below.refl _ _ | refine below_drawn ?_ | refine below_drawnN ?_ _ | refine below_new ?_ _))))
  have d0_w4 : w4.cell? ⟨w2.heap.size, 0, none⟩ = some (.int .i64 a) := below_cell_of hb_w4 (by first | (go_simp; done) | (refine below_cell_of (w := w3) ?_ (by first | assumption | (go_simp; done)); (repeat (first | exact Below.refl _ _ | refine below_drawn ?_ | refine below_drawnN ?_ _ | refine below_new ?_ _))))
  have d1_w4 : w4.cell? ⟨w2.heap.size, 1, none⟩ = some (.int .i64 b) := below_cell_of hb_w4 (by first | (go_simp; done) | (refine below_cell_of (w := w3) ?_ (by first | assumption | (go_simp; done)); (repeat (first | exact Below.refl _ _ | refine below_drawn ?_ | refine below_drawnN ?_ _ | refine below_new ?_ _))))
  go_wp2_with fail
  refine (ready_any a b (a - 1) _).mono ?_
  rw [H1.out]
  rintro e w5 ⟨rfl, hb_w5⟩
  have hB_w5 : Below w.heap.size w w5 := below_on (by first | ((repeat (first | exact Below.refl _ _ | refine below_drawn ?_ | refine below_drawnN ?_ _ | refine below_new ?_ _)); done) | (refine below_on hB_w4 ?_; (repeat (first | exact Below.refl _ _ | refine below_drawn ?_ | refine below_drawnN ?_ _ | refine below_new ?_ _)))) hb_w5
  have hz_w5 := hb_w5.size
  try simp only [World.size_setCell] at hz_w5
  try simp only [World.size_drew] at hz_w5
  try simp only [World.size_drewN] at hz_w5
  try simp only [World.size_alloc] at hz_w5
  try simp only [World.size_setCell] at hz_w5
  try simp only [World.size_drew] at hz_w5
  try simp only [World.size_drewN] at hz_w5
  try simp only [World.size_alloc] at hz_w5
  have hl0_w5 : w.heap.size < w5.heap.size := by omega
  have hl1_w5 : w2.heap.size < w5.heap.size := by omega
  have c0_w5 : w5.cell? ⟨w.heap.size, 0, none⟩ = some (.int .i64 n) := below_cell_of hb_w5 (by first | (go_simp; done) | (refine below_cell_of (w := w4) ?_ (by first | assumption | (go_simp; done)); (repeat (first | exact Below.refl _ _ | refine below_drawn ?_ | refine below_drawnN ?_ _ | refine below_new ?_ _))))
  have c1_w5 : w5.cell? ⟨w.heap.size, 1, none⟩ = some (.int .i64 r) := below_cell_of hb_w5 (by first | (go_simp; done) | (refine below_cell_of (w := w4) ?_ (by first | assumption | (go_simp; done)); (repeat (first | exact Below.refl _ _ | refine below_drawn ?_ | refine below_drawnN ?_ _ | refine below_new ?_ _))))
  have d0_w5 : w5.cell? ⟨w2.heap.size, 0, none⟩ = some (.int .i64 a) := below_cell_of hb_w5 (by first | (go_simp; done) | (refine below_cell_of (w := w4) ?_ (by first | assumption | (go_simp; done)); (repeat (first | exact Below.refl _ _ | refine below_drawn ?_ | refine below_drawnN ?_ _ | refine below_new ?_ _))))
  have d1_w5 : w5.cell? ⟨w2.heap.size, 1, none⟩ = some (.int .i64 b) := below_cell_of hb_w5 (by first | (go_simp; done) | (refine below_cell_of (w := w4) ?_ (by first | assumption | (go_simp; done)); (repeat (first | exact Below.refl _ _ | refine below_drawn ?_ | refine below_drawnN ?_ _ | refine below_new ?_ _))))
  go_wp2
  go_ret
  exact ⟨rfl, by first | exact hB_w5 | exact below_new hB_w5 _⟩
theorem valid_walk (n r now size rate : Int) (w : World) : Calls Try.prog 6 #[.agg #[.int .i64 n, .int .i64 r], .int .i64 now, .int .i64 size, .int .i64 rate] w fun e w' => e = .returned (.bool true) ∧ Below w.heap.size w w' := by
  rcases Pc.send_cases n r now size rate with h | h | h
  · have hb := Pc.send_bd h.1
    have hres := Pc.send_res h.1
    generalize hX : Pc.send n r now size rate = X at *
    obtain ⟨a, b, c⟩ := X
    have hc : c = 0 := h.1
    subst hc
    have hR : Pc.readyB n r now = true := by
      rw [Pc.readyB_iff]
      exact ⟨(Pc.validB_iff n r).1 h.2.1, (Pc.timeB_iff now).1 h.2.2.1, h.2.2.2.2.2⟩
    have hv := (Pc.validB_iff a b).1 hb.1
    have h1 : Pc.readyB a b (a - 1) = false := by
      rw [← Bool.not_eq_true, Pc.readyB_iff]
      omega
    have h2 : a ≤ 20000000 → Pc.readyB a b a = true := by
      intro h2
      rw [Pc.readyB_iff]
      omega
    by_cases h0 : a = 0
    · exact valid_zero n r now size rate a b w hX hR hb.1 hb.2.1 hb.2.2 h0 (h2 (by omega))
    · by_cases h3 : a ≤ 20000000
      · exact valid_mid n r now size rate a b w hX hR hb.1 hb.2.1 hb.2.2 (by omega) h3 h1 (h2 h3)
      · exact valid_far n r now size rate a b w hX hR hb.1 hb.2.1 hb.2.2 (by omega) h1
  · exact valid_arg n r now size rate w h
  · exact valid_time n r now size rate w h.1 h.2
set_option maxHeartbeats 1000000 in
set_option maxRecDepth 100000 in
theorem credit_bad (n r later size rate : Int) (w : World) (b : Bool) (hV : Pc.validB n r = b) (h : b = false ∨ later < 1 ∨ 20000000 < later) : Calls Try.prog 7 #[.agg #[.int .i64 n, .int .i64 r], .int .i64 later, .int .i64 size, .int .i64 rate] w fun e w' => e = .returned (.bool true) ∧ Below w.heap.size w w' := by
  have HV := Lib.hid hV
  have HH := Lib.hid h
  clear hV h
  go_enter Try.func7, Try.ntmps7
  go_wp2_with fail
  refine (head_ok _).mono ?_
  rintro e w1 ⟨rfl, hb_w1⟩
  have hB_w1 : Below w.heap.size w w1 := below_on (by (repeat (first | exact Below.refl _ _ | refine below_drawn ?_ | refine below_drawnN ?_ _ | refine below_new ?_ _))) hb_w1
  have hz_w1 := hb_w1.size
  try simp only [World.size_setCell] at hz_w1
  try simp only [World.size_drew] at hz_w1
  try simp only [World.size_drewN] at hz_w1
  try simp only [World.size_alloc] at hz_w1
  try simp only [World.size_setCell] at hz_w1
  try simp only [World.size_drew] at hz_w1
  try simp only [World.size_drewN] at hz_w1
  try simp only [World.size_alloc] at hz_w1
  have hl0_w1 : w.heap.size < w1.heap.size := by omega
  have c0_w1 : w1.cell? ⟨w.heap.size, 0, none⟩ = some (.int .i64 n) := below_cell_of hb_w1 (by first | (go_simp; done))
  have c1_w1 : w1.cell? ⟨w.heap.size, 1, none⟩ = some (.int .i64 r) := below_cell_of hb_w1 (by first | (go_simp; done))
  go_wp2_with fail
  refine (rvalid_any n r _).mono ?_
  rw [HV.out]
  rintro e w2 ⟨rfl, hb_w2⟩
  have hB_w2 : Below w.heap.size w w2 := below_on (by first | ((repeat (first | exact Below.refl _ _ | refine below_drawn ?_ | refine below_drawnN ?_ _ | refine below_new ?_ _)); done) | (refine below_on hB_w1 ?_; (repeat (first | exact Below.refl _ _ | refine below_drawn ?_ | refine below_drawnN ?_ _ | refine below_new ?_ _)))) hb_w2
  have hz_w2 := hb_w2.size
  try simp only [World.size_setCell] at hz_w2
  try simp only [World.size_drew] at hz_w2
  try simp only [World.size_drewN] at hz_w2
  try simp only [World.size_alloc] at hz_w2
  try simp only [World.size_setCell] at hz_w2
  try simp only [World.size_drew] at hz_w2
  try simp only [World.size_drewN] at hz_w2
  try simp only [World.size_alloc] at hz_w2
  have hl0_w2 : w.heap.size < w2.heap.size := by omega
  have c0_w2 : w2.cell? ⟨w.heap.size, 0, none⟩ = some (.int .i64 n) := below_cell_of hb_w2 (by first | (go_simp; done) | (refine below_cell_of (w := w1) ?_ (by first | assumption | (go_simp; done)); (repeat (first | exact Below.refl _ _ | refine below_drawn ?_ | refine below_drawnN ?_ _ | refine below_new ?_ _))))
  have c1_w2 : w2.cell? ⟨w.heap.size, 1, none⟩ = some (.int .i64 r) := below_cell_of hb_w2 (by first | (go_simp; done) | (refine below_cell_of (w := w1) ?_ (by first | assumption | (go_simp; done)); (repeat (first | exact Below.refl _ _ | refine below_drawn ?_ | refine below_drawnN ?_ _ | refine below_new ?_ _))))
  cases b
  · go_wp2
    go_ret
    exact ⟨rfl, hB_w2⟩
  · rcases HH.out with h | h | h
    · cases h
    · go_wp2
      go_ret
      exact ⟨rfl, hB_w2⟩
    · have h1 : ¬ later < 1 := by omega
      go_wp2
      go_ret
      exact ⟨rfl, hB_w2⟩
set_option maxHeartbeats 1000000 in
set_option maxRecDepth 100000 in
theorem credit_good (n r later size rate a b c : Int) (w : World) (hV : Pc.validB n r = true) (h1 : 1 ≤ later) (h2 : later ≤ 20000000) (hS : Pc.send n r (n + later) size rate = (a, b, c)) (hT : Pc.send (n + later) 0 (n + later) size rate = (a, b, c)) : Calls Try.prog 7 #[.agg #[.int .i64 n, .int .i64 r], .int .i64 later, .int .i64 size, .int .i64 rate] w fun e w' => e = .returned (.bool true) ∧ Below w.heap.size w w' := by
  obtain ⟨hv0, hv1, hv2, hv3⟩ := (Pc.validB_iff n r).1 hV
  have HV := Lib.hid hV
  have HS := Lib.hid hS
  have HT := Lib.hid hT
  clear hV hS hT
  go_enter Try.func7, Try.ntmps7
  go_wp2_with fail
  refine (head_ok _).mono ?_
  rintro e w1 ⟨rfl, hb_w1⟩
  have hB_w1 : Below w.heap.size w w1 := below_on (by (repeat (first | exact Below.refl _ _ | refine below_drawn ?_ | refine below_drawnN ?_ _ | refine below_new ?_ _))) hb_w1
  have hz_w1 := hb_w1.size
  try simp only [World.size_setCell] at hz_w1
  try simp only [World.size_drew] at hz_w1
  try simp only [World.size_drewN] at hz_w1
  try simp only [World.size_alloc] at hz_w1
  try simp only [World.size_setCell] at hz_w1
  try simp only [World.size_drew] at hz_w1
  try simp only [World.size_drewN] at hz_w1
  try simp only [World.size_alloc] at hz_w1
  have hl0_w1 : w.heap.size < w1.heap.size := by omega
  have c0_w1 : w1.cell? ⟨w.heap.size, 0, none⟩ = some (.int .i64 n) := below_cell_of hb_w1 (by first | (go_simp; done))
  have c1_w1 : w1.cell? ⟨w.heap.size, 1, none⟩ = some (.int .i64 r) := below_cell_of hb_w1 (by first | (go_simp; done))
  go_wp2_with fail
  refine (rvalid_any n r _).mono ?_
  rw [HV.out]
  rintro e w2 ⟨rfl, hb_w2⟩
  have hB_w2 : Below w.heap.size w w2 := below_on (by first | ((repeat (first | exact Below.refl _ _ | refine below_drawn ?_ | refine below_drawnN ?_ _ | refine below_new ?_ _)); done) | (refine below_on hB_w1 ?_; (repeat (first | exact Below.refl _ _ | refine below_drawn ?_ | refine below_drawnN ?_ _ | refine below_new ?_ _)))) hb_w2
  have hz_w2 := hb_w2.size
  try simp only [World.size_setCell] at hz_w2
  try simp only [World.size_drew] at hz_w2
  try simp only [World.size_drewN] at hz_w2
  try simp only [World.size_alloc] at hz_w2
  try simp only [World.size_setCell] at hz_w2
  try simp only [World.size_drew] at hz_w2
  try simp only [World.size_drewN] at hz_w2
  try simp only [World.size_alloc] at hz_w2
  have hl0_w2 : w.heap.size < w2.heap.size := by omega
  have c0_w2 : w2.cell? ⟨w.heap.size, 0, none⟩ = some (.int .i64 n) := below_cell_of hb_w2 (by first | (go_simp; done) | (refine below_cell_of (w := w1) ?_ (by first | assumption | (go_simp; done)); (repeat (first | exact Below.refl _ _ | refine below_drawn ?_ | refine below_drawnN ?_ _ | refine below_new ?_ _))))
  have c1_w2 : w2.cell? ⟨w.heap.size, 1, none⟩ = some (.int .i64 r) := below_cell_of hb_w2 (by first | (go_simp; done) | (refine below_cell_of (w := w1) ?_ (by first | assumption | (go_simp; done)); (repeat (first | exact Below.refl _ _ | refine below_drawn ?_ | refine below_drawnN ?_ _ | refine below_new ?_ _))))
  go_wp2_with fail
  refine (send_any n r (n + later) size rate _).mono ?_
  rw [HS.out]
  rintro e w3 ⟨rfl, hb_w3⟩
  have hB_w3 : Below w.heap.size w w3 := below_on (by first | ((repeat (first | exact Below.refl _ _ | refine below_drawn ?_ | refine below_drawnN ?_ _ | refine below_new ?_ _)); done) | (refine below_on hB_w2 ?_; (repeat (first | exact Below.refl _ _ | refine below_drawn ?_ | refine below_drawnN ?_ _ | refine below_new ?_ _)))) hb_w3
  have hz_w3 := hb_w3.size
  try simp only [World.size_setCell] at hz_w3
  try simp only [World.size_drew] at hz_w3
  try simp only [World.size_drewN] at hz_w3
  try simp only [World.size_alloc] at hz_w3
  try simp only [World.size_setCell] at hz_w3
  try simp only [World.size_drew] at hz_w3
  try simp only [World.size_drewN] at hz_w3
  try simp only [World.size_alloc] at hz_w3
  have hl0_w3 : w.heap.size < w3.heap.size := by omega
  have c0_w3 : w3.cell? ⟨w.heap.size, 0, none⟩ = some (.int .i64 n) := below_cell_of hb_w3 (by first | (go_simp; done) | (refine below_cell_of (w := w2) ?_ (by first | assumption | (go_simp; done)); (repeat (first | exact Below.refl _ _ | refine below_drawn ?_ | refine below_drawnN ?_ _ | refine below_new ?_ _))))
  have c1_w3 : w3.cell? ⟨w.heap.size, 1, none⟩ = some (.int .i64 r) := below_cell_of hb_w3 (by first | (go_simp; done) | (refine below_cell_of (w := w2) ?_ (by first | assumption | (go_simp; done)); (repeat (first | exact Below.refl _ _ | refine below_drawn ?_ | refine below_drawnN ?_ _ | refine below_new ?_ _))))
  go_wp2_with fail
  refine (send_any (n + later) 0 (n + later) size rate _).mono ?_
  rw [HT.out]
  rintro e w4 ⟨rfl, hb_w4⟩
  have hB_w4 : Below w.heap.size w w4 := below_on (by first | ((repeat (first | exact Below.refl _ _ | refine below_drawn ?_ | refine below_drawnN ?_ _ | refine below_new ?_ _)); done) | (refine below_on hB_w3 ?_; (repeat (first | exact Below.refl _ _ | refine below_drawn ?_ | refine below_drawnN ?_ _ | refine below_new ?_ _)))) hb_w4
  have hz_w4 := hb_w4.size
  try simp only [World.size_setCell] at hz_w4
  try simp only [World.size_drew] at hz_w4
  try simp only [World.size_drewN] at hz_w4
  try simp only [World.size_alloc] at hz_w4
  try simp only [World.size_setCell] at hz_w4
  try simp only [World.size_drew] at hz_w4
  try simp only [World.size_drewN] at hz_w4
  try simp only [World.size_alloc] at hz_w4
  have hl0_w4 : w.heap.size < w4.heap.size := by omega
  have hl1_w4 : w3.heap.size < w4.heap.size := by omega
  have c0_w4 : w4.cell? ⟨w.heap.size, 0, none⟩ = some (.int .i64 n) := below_cell_of hb_w4 (by first | (go_simp; done) | (refine below_cell_of (w := w3) ?_ (by first | assumption | (go_simp; done)); (repeat (first | exact Below.refl _ _ | refine below_drawn ?_ | refine below_drawnN ?_ _ | refine below_new ?_ _))))
  have c1_w4 : w4.cell? ⟨w.heap.size, 1, none⟩ = some (.int .i64 r) := below_cell_of hb_w4 (by first | (go_simp; done) | (refine below_cell_of (w := w3) ?_ (by first | assumption | (go_simp; done)); (repeat (first | exact Below.refl _ _ | refine below_drawn ?_ | refine below_drawnN ?_ _ | refine below_new ?_ _))))
  have d0_w4 : w4.cell? ⟨w3.heap.size, 0, none⟩ = some (.int .i64 a) := below_cell_of hb_w4 (by first | (go_simp; done) | (refine below_cell_of (w := w3) ?_ (by first | assumption | (go_simp; done)); (repeat (first | exact Below.refl _ _ | refine below_drawn ?_ | refine below_drawnN ?_ _ | refine below_new ?_ _))))
  have d1_w4 : w4.cell? ⟨w3.heap.size, 1, none⟩ = some (.int .i64 b) := below_cell_of hb_w4 (by first | (go_simp; done) | (refine below_cell_of (w := w3) ?_ (by first | assumption | (go_simp; done)); (repeat (first | exact Below.refl _ _ | refine below_drawn ?_ | refine below_drawnN ?_ _ | refine below_new ?_ _))))
  go_wp2
  go_ret
  exact ⟨rfl, by first | exact hB_w4 | exact below_new hB_w4 _⟩
theorem credit_walk (n r later size rate : Int) (w : World) : Calls Try.prog 7 #[.agg #[.int .i64 n, .int .i64 r], .int .i64 later, .int .i64 size, .int .i64 rate] w fun e w' => e = .returned (.bool true) ∧ Below w.heap.size w w' := by
  cases hV : Pc.validB n r with
  | false => exact credit_bad n r later size rate w _ hV (.inl rfl)
  | true =>
    by_cases h : later < 1 ∨ 20000000 < later
    · exact credit_bad n r later size rate w _ hV (.inr h)
    · have hl := Pc.late (size := size) (rate := rate) hV (show n < n + later by omega)
      obtain ⟨a, b, c, hS⟩ : ∃ a b c, Pc.send n r (n + later) size rate = (a, b, c) := ⟨_, _, _, rfl⟩
      exact credit_good n r later size rate a b c w hV (by omega) (by omega) hS (by rw [← hl, hS])
end Go.Proofs.Ytgfcoahlmbjjoaa
