/- The fixed examples of the statements on package pacer hold. -/
import Derived.Test.YtgfcoahlmbjjoaaPaceRef
namespace Go.Proofs.Ytgfcoahlmbjjoaa
open Go.RowKit

set_option maxRecDepth 100000 in
theorem is_yes (n r now a b : Int) (w : World) (h : Pc.send n r now 1000 300 = (a, b, 0)) : Calls Try.prog 20 #[.agg #[.int .i64 n, .int .i64 r], .int .i64 now, .agg #[.int .i64 a, .int .i64 b]] w fun e w' => e = .returned (.bool true) ∧ Below w.heap.size w w' := by
  have H := Lib.hid h
  clear h
  go_enter Try.func20, Try.ntmps20
  go_wp2_with fail
  refine (send_any n r now 1000 300 _).mono ?_
  rw [H.out]
  rintro e w1 ⟨rfl, hb_w1⟩
  have hB_w1 : Below w.heap.size w w1 := below_on (by (repeat (first | exact Below.refl _ _ | refine below_drawn ?_ | refine below_drawnN ?_ _ | refine below_new ?_ _))) hb_w1
  have hz_w1 := hb_w1.size
  try simp only [World.size_setCell] at hz_w1
  try simp only [World.size_drew] at hz_w1
  try simp only [World.size_drewN] at hz_w1
  try simp only [World.size_alloc] at hz_w1
  try simp only [World.size_setCell] at hz_w1
  try simp only [World.size_drew] at hz_w1
  try simp only [World.size_drewN] at hz_w1
  try simp only [World.size_alloc] at hz_w1
  have hl0_w1 : w.heap.size < w1.heap.size := by omega
  have hl1_w1 : w.heap.size + 1 < w1.heap.size := by omega
  have c0_w1 : w1.cell? ⟨w.heap.size, 0, none⟩ = some (.int .i64 n) := below_cell_of hb_w1 (by first | (go_simp; done))
  have c1_w1 : w1.cell? ⟨w.heap.size, 1, none⟩ = some (.int .i64 r) := below_cell_of hb_w1 (by first | (go_simp; done))
  have d0_w1 : w1.cell? ⟨w.heap.size + 1, 0, none⟩ = some (.int .i64 a) := below_cell_of hb_w1 (by first | (go_simp; done))
  have d1_w1 : w1.cell? ⟨w.heap.size + 1, 1, none⟩ = some (.int .i64 b) := below_cell_of hb_w1 (by first | (go_simp; done))
  go_wp2
  go_ret
  exact ⟨rfl, below_new hB_w1 _⟩

theorem s1 : Pc.send 3333 100 3332 1000 300 = (0, 0, 18) := by decide +kernel
theorem s2 : Pc.send 3333 100 3333 0 300 = (0, 0, 1) := by decide +kernel
theorem s3 : Pc.send 0 0 0 1000 300 = (3333, 100, 0) := by decide +kernel
theorem s4 : Pc.send 3333 100 3333 1000 300 = (6666, 200, 0) := by decide +kernel
theorem s5 : Pc.send 6666 200 6666 1000 300 = (10000, 0, 0) := by decide +kernel
theorem s6 : Pc.send 3333 100 4000 1000 300 = (7333, 100, 0) := by decide +kernel
theorem r1 : Pc.readyB 3333 100 3333 = true := by decide +kernel
theorem r2 : Pc.readyB 3333 100 3332 = false := by decide +kernel
theorem v1 : Pc.validB 3333 100 = true := by decide +kernel
theorem v2 : Pc.validB (-1) 0 = false := by decide +kernel
set_option maxHeartbeats 1000000 in
set_option maxRecDepth 100000 in
theorem head_ok (w : World) : Calls Try.prog 10 #[] w fun e w' => e = .returned (.bool true) ∧ Below w.heap.size w w' := by
  go_enter Try.func10, Try.ntmps10
  go_wp2_with fail
  refine (send_any 3333 100 3332 1000 300 _).mono ?_
  rw [s1]
  rintro e w1 ⟨rfl, hb_w1⟩
  have hB_w1 : Below w.heap.size w w1 := below_on (by (repeat (first | exact Below.refl _ _ | refine below_drawn ?_ | refine below_drawnN ?_ _ | refine below_new ?_ _))) hb_w1
  have hz_w1 := hb_w1.size
  try simp only [World.size_setCell] at hz_w1
  try simp only [World.size_drew] at hz_w1
  try simp only [World.size_drewN] at hz_w1
  try simp only [World.size_alloc] at hz_w1
  try simp only [World.size_setCell] at hz_w1
  try simp only [World.size_drew] at hz_w1
  try simp only [World.size_drewN] at hz_w1
  try simp only [World.size_alloc] at hz_w1
  have hl0_w1 : w.heap.size < w1.heap.size := by omega
  have hl1_w1 : w.heap.size + 1 < w1.heap.size := by omega
  have a0_w1 : w1.cell? ⟨w.heap.size, 0, none⟩ = some (.int .i64 3333) := below_cell_of hb_w1 (by first | (go_simp; done))
  have a1_w1 : w1.cell? ⟨w.heap.size, 1, none⟩ = some (.int .i64 100) := below_cell_of hb_w1 (by first | (go_simp; done))
  have b0_w1 : w1.cell? ⟨w.heap.size + 1, 0, none⟩ = some (.int .i64 6666) := below_cell_of hb_w1 (by first | (go_simp; done))
  have b1_w1 : w1.cell? ⟨w.heap.size + 1, 1, none⟩ = some (.int .i64 200) := below_cell_of hb_w1 (by first | (go_simp; done))
  go_wp2_with fail
  refine (send_any 3333 100 3333 0 300 _).mono ?_
  rw [s2]
  rintro e w2 ⟨rfl, hb_w2⟩
  have hB_w2 : Below w.heap.size w w2 := below_on (by first | ((repeat (first | exact Below.refl _ _ | refine below_drawn ?_ | refine below_drawnN ?_ _ | refine below_new ?_ _)); done) | (refine below_on hB_w1 ?_; (repeat (first | exact Below.refl _ _ | refine below_drawn ?_ | refine below_drawnN ?_ _ | refine below_new ?_ _)))) hb_w2
  have hz_w2 := hb_w2.size
  try simp only [World.size_setCell] at hz_w2
  try simp only [World.size_drew] at hz_w2
  try simp only [World.size_drewN] at hz_w2
  try simp only [World.size_alloc] at hz_w2
  try simp only [World.size_setCell] at hz_w2
  try simp only [World.size_drew] at hz_w2
  try simp only [World.size_drewN] at hz_w2
  try simp only [World.size_alloc] at hz_w2
  have hl0_w2 : w.heap.size < w2.heap.size := by omega
  have hl1_w2 : w.heap.size + 1 < w2.heap.size := by omega
  have a0_w2 : w2.cell? ⟨w.heap.size, 0, none⟩ = some (.int .i64 3333) := below_cell_of hb_w2 (by first | (go_simp; done) | (refine below_cell_of (w := w1) ?_ (by first | assumption | (go_simp; done)); (repeat (first | exact Below.refl _ _ | refine below_drawn ?_ | refine below_drawnN ?_ _ | refine below_new ?_ _))))
  have a1_w2 : w2.cell? ⟨w.heap.size, 1, none⟩ = some (.int .i64 100) := below_cell_of hb_w2 (by first | (go_simp; done) | (refine below_cell_of (w := w1) ?_ (by first | assumption | (go_simp; done)); (repeat (first | exact Below.refl _ _ | refine below_drawn ?_ | refine below_drawnN ?_ _ | refine below_new ?_ _))))
  have b0_w2 : w2.cell? ⟨w.heap.size + 1, 0, none⟩ = some (.int .i64 6666) := below_cell_of hb_w2 (by first | (go_simp; done) | (refine below_cell_of (w := w1) ?_ (by first | assumption | (go_simp; done)); (repeat (first | exact Below.refl _ _ | refine below_drawn ?_ | refine below_drawnN ?_ _ | refine below_new ?_ _))))
  have b1_w2 : w2.cell? ⟨w.heap.size + 1, 1, none⟩ = some (.int .i64 200) := below_cell_of hb_w2 (by first | (go_simp; done) | (refine below_cell_of (w := w1) ?_ (by first | assumption | (go_simp; done)); (repeat (first | exact Below.refl _ _ | refine below_drawn ?_ | refine below_drawnN ?_ _ | refine below_new ?_ _))))
  go_wp2_with fail
  refine (is_yes 0 0 0 3333 100 _ s3).mono ?_
  rintro e w3 ⟨rfl, hb_w3⟩
  have hB_w3 : Below w.heap.size w w3 := below_on (by first | ((repeat (first | exact Below.refl _ _ | refine below_drawn ?_ | refine below_drawnN ?_ _ | refine below_new ?_ _)); done) | (refine below_on hB_w2 ?_; (repeat (first | exact Below.refl _ _ | refine below_drawn ?_ | refine below_drawnN ?_ _ | refine below_new ?_ _)))) hb_w3
  have hz_w3 := hb_w3.size
  try simp only [World.size_setCell] at hz_w3
  try simp only [World.size_drew] at hz_w3
  try simp only [World.size_drewN] at hz_w3
  try simp only [World.size_alloc] at hz_w3
  try simp only [World.size_setCell] at hz_w3
  try simp only [World.size_drew] at hz_w3
  try simp only [World.size_drewN] at hz_w3
  try simp only [World.size_alloc] at hz_w3
  have hl0_w3 : w.heap.size < w3.heap.size := by omega
  have hl1_w3 : w.heap.size + 1 < w3.heap.size := by omega
  have a0_w3 : w3.cell? ⟨w.heap.size, 0, none⟩ = some (.int .i64 3333) := below_cell_of hb_w3 (by first | (go_simp; done) | (refine below_cell_of (w := w2) ?_ (by first | assumption | (go_simp; done)); (repeat (first | exact Below.refl _ _ | refine below_drawn ?_ | refine below_drawnN ?_ _ | refine below_new ?_ _))))
  have a1_w3 : w3.cell? ⟨w.heap.size, 1, none⟩ = some (.int .i64 100) := below_cell_of hb_w3 (by first | (go_simp; done) | (refine below_cell_of (w := w2) ?_ (by first | assumption | (go_simp; done)); (repeat (first | exact Below.refl _ _ | refine below_drawn ?_ | refine below_drawnN ?_ _ | refine below_new ?_ _))))
  have b0_w3 : w3.cell? ⟨w.heap.size + 1, 0, none⟩ = some (.int .i64 6666) := below_cell_of hb_w3 (by first | (go_simp; done) | (refine below_cell_of (w := w2) ?_ (by first | assumption | (go_simp; done)); (repeat (first | exact Below.refl _ _ | refine below_drawn ?_ | refine below_drawnN ?_ _ | refine below_new ?_ _))))
  have b1_w3 : w3.cell? ⟨w.heap.size + 1, 1, none⟩ = some (.int .i64 200) := below_cell_of hb_w3 (by first | (go_simp; done) | (refine below_cell_of (w := w2) ?_ (by first | assumption | (go_simp; done)); (repeat (first | exact Below.refl _ _ | refine below_drawn ?_ | refine below_drawnN ?_ _ | refine below_new ?_ _))))
  go_wp2_with fail
  refine (is_yes 3333 100 3333 6666 200 _ s4).mono ?_
  rintro e w4 ⟨rfl, hb_w4⟩
  have hB_w4 : Below w.heap.size w w4 := below_on (by first | ((repeat (first | exact Below.refl _ _ | refine below_drawn ?_ | refine below_drawnN ?_ _ | refine below_new ?_ _)); done) | (refine below_on hB_w3 ?_; (repeat (first | exact Below.refl _ _ | refine below_drawn ?_ | refine below_drawnN ?_ _ | refine below_new ?_ _)))) hb_w4
  have hz_w4 := hb_w4.size
  try simp only [World.size_setCell] at hz_w4
  try simp only [World.size_drew] at hz_w4
  try simp only [World.size_drewN] at hz_w4
  try simp only [World.size_alloc] at hz_w4
  try simp only [World.size_setCell] at hz_w4
  try simp only [World.size_drew] at hz_w4
  try simp only [World.size_drewN] at hz_w4
  try simp only [World.size_alloc] at hz_w4
  have hl0_w4 : w.heap.size < w4.heap.size := by omega
  have hl1_w4 : w.heap.size + 1 < w4.heap.size := by omega
  have a0_w4 : w4.cell? ⟨w.heap.size, 0, none⟩ = some (.int .i64 3333) := below_cell_of hb_w4 (by first | (go_simp; done) | (refine below_cell_of (w := w3) ?_ (by first | assumption | (go_simp; done)); (repeat (first | exact Below.refl _ _ | refine below_drawn ?_ | refine below_drawnN ?_ _ | refine below_new ?_ _))))
  have a1_w4 : w4.cell? ⟨w.heap.size, 1, none⟩ = some (.int .i64 100) := below_cell_of hb_w4 (by first | (go_simp; done) | (refine below_cell_of (w := w3) ?_ (by first | assumption | (go_simp; done)); (repeat (first | exact Below.refl _ _ | refine below_drawn ?_ | refine below_drawnN ?_ _ | refine below_new ?_ _))))
  have b0_w4 : w4.cell? ⟨w.heap.size + 1, 0, none⟩ = some (.int .i64 6666) := below_cell_of hb_w4 (by first | (go_simp; done) | (refine below_cell_of (w := w3) ?_ (by first | assumption | (go_simp; done)); (repeat (first | exact Below.refl _ _ | refine below_drawn ?_ | refine below_drawnN ?_ _ | refine below_new ?_ _))))
  have b1_w4 : w4.cell? ⟨w.heap.size + 1, 1, none⟩ = some (.int .i64 200) := below_cell_of hb_w4 (by first | (go_simp; done) | (refine below_cell_of (w := w3) ?_ (by first | assumption | (go_simp; done)); (repeat (first | exact Below.refl _ _ | refine below_drawn ?_ | refine below_drawnN ?_ _ | refine below_new ?_ _))))
  go_wp2_with fail
  refine (is_yes 6666 200 6666 10000 0 _ s5).mono ?_
  rintro e w5 ⟨rfl, hb_w5⟩
  have hB_w5 : Below w.heap.size w w5 := below_on (by first | ((repeat (first | exact Below.refl _ _ | refine below_drawn ?_ | refine below_drawnN ?_ _ | refine below_new ?_ _)); done) | (refine below_on hB_w4 ?_; (repeat (first | exact Below.refl _ _ | refine below_drawn ?_ | refine below_drawnN ?_ _ | refine below_new ?_ _)))) hb_w5
  have hz_w5 := hb_w5.size
  try simp only [World.size_setCell] at hz_w5
  try simp only [World.size_drew] at hz_w5
  try simp only [World.size_drewN] at hz_w5
  try simp only [World.size_alloc] at hz_w5
  try simp only [World.size_setCell] at hz_w5
  try simp only [World.size_drew] at hz_w5
  try simp only [World.size_drewN] at hz_w5
  try simp only [World.size_alloc] at hz_w5
  have hl0_w5 : w.heap.size < w5.heap.size := by omega
  have hl1_w5 : w.heap.size + 1 < w5.heap.size := by omega
  have a0_w5 : w5.cell? ⟨w.heap.size, 0, none⟩ = some (.int .i64 3333) := below_cell_of hb_w5 (by first | (go_simp; done) | (refine below_cell_of (w := w4) ?_ (by first | assumption | (go_simp; done)); (repeat (first | exact Below.refl _ _ | refine below_drawn ?_ | refine below_drawnN ?_ _ | refine below_new ?_ _))))
  have a1_w5 : w5.cell? ⟨w.heap.size, 1, none⟩ = some (.int .i64 100) := below_cell_of hb_w5 (by first | (go_simp; done) | (refine below_cell_of (w := w4) ?_ (by first | assumption | (go_simp; done)); (repeat (first | exact Below.refl _ _ | refine below_drawn ?_ | refine below_drawnN ?_ _ | refine below_new ?_ _))))
  have b0_w5 : w5.cell? ⟨w.heap.size + 1, 0, none⟩ = some (.int .i64 6666) := below_cell_of hb_w5 (by first | (go_simp; done) | (refine below_cell_of (w := w4) ?_ (by first | assumption | (go_simp; done)); (repeat (first | exact Below.refl _ _ | refine below_drawn ?_ | refine below_drawnN ?_ _ | refine below_new ?_ _))))
  have b1_w5 : w5.cell? ⟨w.heap.size + 1, 1, none⟩ = some (.int .i64 200) := below_cell_of hb_w5 (by first | (go_simp; done) | (refine below_cell_of (w := w4) ?_ (by first | assumption | (go_simp; done)); (repeat (first | exact Below.refl _ _ | refine below_drawn ?_ | refine below_drawnN ?_ _ | refine below_new ?_ _))))
  go_wp2_with fail
  refine (is_yes 3333 100 4000 7333 100 _ s6).mono ?_
  rintro e w6 ⟨rfl, hb_w6⟩
  have hB_w6 : Below w.heap.size w w6 := below_on (by first | ((repeat (first | exact Below.refl _ _ | refine below_drawn ?_ | refine below_drawnN ?_ _ | refine below_new ?_ _)); done) | (refine below_on hB_w5 ?_; (repeat (first | exact Below.refl _ _ | refine below_drawn ?_ | refine below_drawnN ?_ _ | refine below_new ?_ _)))) hb_w6
  have hz_w6 := hb_w6.size
  try simp only [World.size_setCell] at hz_w6
  try simp only [World.size_drew] at hz_w6
  try simp only [World.size_drewN] at hz_w6
  try simp only [World.size_alloc] at hz_w6
  try simp only [World.size_setCell] at hz_w6
  try simp only [World.size_drew] at hz_w6
  try simp only [World.size_drewN] at hz_w6
  try simp only [World.size_alloc] at hz_w6
  have hl0_w6 : w.heap.size < w6.heap.size := by omega
  have hl1_w6 : w.heap.size + 1 < w6.heap.size := by omega
  have a0_w6 : w6.cell? ⟨w.heap.size, 0, none⟩ = some (.int .i64 3333) := below_cell_of hb_w6 (by first | (go_simp; done) | (refine below_cell_of (w := w5) ?_ (by first | assumption | (go_simp; done)); (repeat (first | exact Below.refl _ _ | refine below_drawn ?_ | refine below_drawnN ?_ _ | refine below_new ?_ _))))
  have a1_w6 : w6.cell? ⟨w.heap.size, 1, none⟩ = some (.int .i64 100) := below_cell_of hb_w6 (by first | (go_simp; done) | (refine below_cell_of (w := w5) ?_ (by first | assumption | (go_simp; done)); (repeat (first | exact Below.refl _ _ | refine below_drawn ?_ | refine below_drawnN ?_ _ | refine below_new ?_ _))))
  have b0_w6 : w6.cell? ⟨w.heap.size + 1, 0, none⟩ = some (.int .i64 6666) := below_cell_of hb_w6 (by first | (go_simp; done) | (refine below_cell_of (w := w5) ?_ (by first | assumption | (go_simp; done)); (repeat (first | exact Below.refl _ _ | refine below_drawn ?_ | refine below_drawnN ?_ _ | refine below_new ?_ _))))
  have b1_w6 : w6.cell? ⟨w.heap.size + 1, 1, none⟩ = some (.int .i64 200) := below_cell_of hb_w6 (by first | (go_simp; done) | (refine below_cell_of (w := w5) ?_ (by first | assumption | (go_simp; done)); (repeat (first | exact Below.refl _ _ | refine below_drawn ?_ | refine below_drawnN ?_ _ | refine below_new ?_ _))))
  go_wp2_with fail
  refine (ready_any 3333 100 3333 _).mono ?_
  rw [r1]
  rintro e w7 ⟨rfl, hb_w7⟩
  have hB_w7 : Below w.heap.size w w7 := below_on (by first | ((repeat (first | exact Below.refl _ _ | refine below_drawn ?_ | refine below_drawnN ?_ _ | refine below_new ?_ _)); done) | (refine below_on hB_w6 ?_; (repeat (first | exact Below.refl _ _ | refine below_drawn ?_ | refine below_drawnN ?_ _ | refine below_new ?_ _)))) hb_w7
  have hz_w7 := hb_w7.size
  try simp only [World.size_setCell] at hz_w7
  try simp only [World.size_drew] at hz_w7
  try simp only [World.size_drewN] at hz_w7
  try simp only [World.size_alloc] at hz_w7
  try simp only [World.size_setCell] at hz_w7
  try simp only [World.size_drew] at hz_w7
  try simp only [World.size_drewN] at hz_w7
  try simp only [World.size_alloc] at hz_w7
  have hl0_w7 : w.heap.size < w7.heap.size := by omega
  have hl1_w7 : w.heap.size + 1 < w7.heap.size := by omega
  have a0_w7 : w7.cell? ⟨w.heap.size, 0, none⟩ = some (.int .i64 3333) := below_cell_of hb_w7 (by first | (go_simp; done) | (refine below_cell_of (w := w6) ?_ (by first | assumption | (go_simp; done)); (repeat (first | exact Below.refl _ _ | refine below_drawn ?_ | refine below_drawnN ?_ _ | refine below_new ?_ _))))
  have a1_w7 : w7.cell? ⟨w.heap.size, 1, none⟩ = some (.int .i64 100) := below_cell_of hb_w7 (by first | (go_simp; done) | (refine below_cell_of (w := w6) ?_ (by first | assumption | (go_simp; done)); (repeat (first | exact Below.refl _ _ | refine below_drawn ?_ | refine below_drawnN ?_ _ | refine below_new ?_ _))))
  have b0_w7 : w7.cell? ⟨w.heap.size + 1, 0, none⟩ = some (.int .i64 6666) := below_cell_of hb_w7 (by first | (go_simp; done) | (refine below_cell_of (w := w6) ?_ (by first | assumption | (go_simp; done)); (repeat (first | exact Below.refl _ _ | refine below_drawn ?_ | refine below_drawnN ?_ _ | refine below_new ?_ _))))
  have b1_w7 : w7.cell? ⟨w.heap.size + 1, 1, none⟩ = some (.int .i64 200) := below_cell_of hb_w7 (by first | (go_simp; done) | (refine below_cell_of (w := w6) ?_ (by first | assumption | (go_simp; done)); (repeat (first | exact Below.refl _ _ | refine below_drawn ?_ | refine below_drawnN ?_ _ | refine below_new ?_ _))))
  go_wp2_with fail
  refine (ready_any 3333 100 3332 _).mono ?_
  rw [r2]
  rintro e w8 ⟨rfl, hb_w8⟩
  have hB_w8 : Below w.heap.size w w8 := below_on (by first | ((repeat (first | exact Below.refl _ _ | refine below_drawn ?_ | refine below_drawnN ?_ _ | refine below_new ?_ _)); done) | (refine below_on hB_w7 ?_; (repeat (first | exact Below.refl _ _ | refine below_drawn ?_ | refine below_drawnN ?_ _ | refine below_new ?_ _)))) hb_w8
  have hz_w8 := hb_w8.size
  try simp only [World.size_setCell] at hz_w8
  try simp only [World.size_drew] at hz_w8
  try simp only [World.size_drewN] at hz_w8
  try simp only [World.size_alloc] at hz_w8
  try simp only [World.size_setCell] at hz_w8
  try simp only [World.size_drew] at hz_w8
  try simp only [World.size_drewN] at hz_w8
  try simp only [World.size_alloc] at hz_w8
  have hl0_w8 : w.heap.size < w8.heap.size := by omega
  have hl1_w8 : w.heap.size + 1 < w8.heap.size := by omega
  have a0_w8 : w8.cell? ⟨w.heap.size, 0, none⟩ = some (.int .i64 3333) := below_cell_of hb_w8 (by first | (go_simp; done) | (refine below_cell_of (w := w7) ?_ (by first | assumption | (go_simp; done)); (repeat (first | exact Below.refl _ _ | refine below_drawn ?_ | refine below_drawnN ?_ _ | refine below_new ?_ _))))
  have a1_w8 : w8.cell? ⟨w.heap.size, 1, none⟩ = some (.int .i64 100) := below_cell_of hb_w8 (by first | (go_simp; done) | (refine below_cell_of (w := w7) ?_ (by first | assumption | (go_simp; done)); (repeat (first | exact Below.refl _ _ | refine below_drawn ?_ | refine below_drawnN ?_ _ | refine below_new ?_ _))))
  have b0_w8 : w8.cell? ⟨w.heap.size + 1, 0, none⟩ = some (.int .i64 6666) := below_cell_of hb_w8 (by first | (go_simp; done) | (refine below_cell_of (w := w7) ?_ (by first | assumption | (go_simp; done)); (repeat (first | exact Below.refl _ _ | refine below_drawn ?_ | refine below_drawnN ?_ _ | refine below_new ?_ _))))
  have b1_w8 : w8.cell? ⟨w.heap.size + 1, 1, none⟩ = some (.int .i64 200) := below_cell_of hb_w8 (by first | (go_simp; done) | (refine below_cell_of (w := w7) ?_ (by first | assumption | (go_simp; done)); (repeat (first | exact Below.refl _ _ | refine below_drawn ?_ | refine below_drawnN ?_ _ | refine below_new ?_ _))))
  go_wp2_with fail
  refine (valid_any 3333 100 _).mono ?_
  rw [v1]
  rintro e w9 ⟨rfl, hb_w9⟩
  have hB_w9 : Below w.heap.size w w9 := below_on (by first | ((repeat (first | exact Below.refl _ _ | refine below_drawn ?_ | refine below_drawnN ?_ _ | refine below_new ?_ _)); done) | (refine below_on hB_w8 ?_; (repeat (first | exact Below.refl _ _ | refine below_drawn ?_ | refine below_drawnN ?_ _ | refine below_new ?_ _)))) hb_w9
  have hz_w9 := hb_w9.size
  try simp only [World.size_setCell] at hz_w9
  try simp only [World.size_drew] at hz_w9
  try simp only [World.size_drewN] at hz_w9
  try simp only [World.size_alloc] at hz_w9
  try simp only [World.size_setCell] at hz_w9
  try simp only [World.size_drew] at hz_w9
  try simp only [World.size_drewN] at hz_w9
  try simp only [World.size_alloc] at hz_w9
  have hl0_w9 : w.heap.size < w9.heap.size := by omega
  have hl1_w9 : w.heap.size + 1 < w9.heap.size := by omega
  have a0_w9 : w9.cell? ⟨w.heap.size, 0, none⟩ = some (.int .i64 3333) := below_cell_of hb_w9 (by first | (go_simp; done) | (refine below_cell_of (w := w8) ?_ (by first | assumption | (go_simp; done)); (repeat (first | exact Below.refl _ _ | refine below_drawn ?_ | refine below_drawnN ?_ _ | refine below_new ?_ _))))
  have a1_w9 : w9.cell? ⟨w.heap.size, 1, none⟩ = some (.int .i64 100) := below_cell_of hb_w9 (by first | (go_simp; done) | (refine below_cell_of (w := w8) ?_ (by first | assumption | (go_simp; done)); (repeat (first | exact Below.refl _ _ | refine below_drawn ?_ | refine below_drawnN ?_ _ | refine below_new ?_ _))))
  have b0_w9 : w9.cell? ⟨w.heap.size + 1, 0, none⟩ = some (.int .i64 6666) := below_cell_of hb_w9 (by first | (go_simp; done) | (refine below_cell_of (w := w8) ?_ (by first | assumption | (go_simp; done)); (repeat (first | exact Below.refl _ _ | refine below_drawn ?_ | refine below_drawnN ?_ _ | refine below_new ?_ _))))
  have b1_w9 : w9.cell? ⟨w.heap.size + 1, 1, none⟩ = some (.int .i64 200) := below_cell_of hb_w9 (by first | (go_simp; done) | (refine below_cell_of (w := w8) ?_ (by first | assumption | (go_simp; done)); (repeat (first | exact Below.refl _ _ | refine below_drawn ?_ | refine below_drawnN ?_ _ | refine below_new ?_ _))))
  go_wp2_with fail
  refine (valid_any (-1) 0 _).mono ?_
  rw [v2]
  rintro e w10 ⟨rfl, hb_w10⟩
  have hB_w10 : Below w.heap.size w w10 := below_on (by first | ((repeat (first | exact Below.refl _ _ | refine below_drawn ?_ | refine below_drawnN ?_ _ | refine below_new ?_ _)); done) | (refine below_on hB_w9 ?_; (repeat (first | exact Below.refl _ _ | refine below_drawn ?_ | refine below_drawnN ?_ _ | refine below_new ?_ _)))) hb_w10
  have hz_w10 := hb_w10.size
  try simp only [World.size_setCell] at hz_w10
  try simp only [World.size_drew] at hz_w10
  try simp only [World.size_drewN] at hz_w10
  try simp only [World.size_alloc] at hz_w10
  try simp only [World.size_setCell] at hz_w10
  try simp only [World.size_drew] at hz_w10
  try simp only [World.size_drewN] at hz_w10
  try simp only [World.size_alloc] at hz_w10
  have hl0_w10 : w.heap.size < w10.heap.size := by omega
  have hl1_w10 : w.heap.size + 1 < w10.heap.size := by omega
  have a0_w10 : w10.cell? ⟨w.heap.size, 0, none⟩ = some (.int .i64 3333) := below_cell_of hb_w10 (by first | (go_simp; done) | (refine below_cell_of (w := w9) ?_ (by first | assumption | (go_simp; done)); (repeat (first | exact Below.refl _ _ | refine below_drawn ?_ | refine below_drawnN ?_ _ | refine below_new ?_ _))))
  have a1_w10 : w10.cell? ⟨w.heap.size, 1, none⟩ = some (.int .i64 100) := below_cell_of hb_w10 (by first | (go_simp; done) | (refine below_cell_of (w := w9) ?_ (by first | assumption | (go_simp; done)); (repeat (first | exact Below.refl _ _ | refine below_drawn ?_ | refine below_drawnN ?_ _ | refine below_new ?_ _))))
  have b0_w10 : w10.cell? ⟨w.heap.size + 1, 0, none⟩ = some (.int .i64 6666) := below_cell_of hb_w10 (by first | (go_simp; done) | (refine below_cell_of (w := w9) ?_ (by first | assumption | (go_simp; done)); (repeat (first | exact Below.refl _ _ | refine below_drawn ?_ | refine below_drawnN ?_ _ | refine below_new ?_ _))))
  have b1_w10 : w10.cell? ⟨w.heap.size + 1, 1, none⟩ = some (.int .i64 200) := below_cell_of hb_w10 (by first | (go_simp; done) | (refine below_cell_of (w := w9) ?_ (by first | assumption | (go_simp; done)); (repeat (first | exact Below.refl _ _ | refine below_drawn ?_ | refine below_drawnN ?_ _ | refine below_new ?_ _))))
  go_wp2
  go_ret
  exact ⟨rfl, hB_w10⟩
end Go.Proofs.Ytgfcoahlmbjjoaa
