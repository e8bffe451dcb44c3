/- The fixed examples of the statements on package ratio hold. -/
import Derived.Test.YtjnjokkhkfdaiaaRatRefOps
namespace Go.Proofs.Ytjnjokkhkfdaiaa
open Go.RowKit

theorem x1 : Rt.add 1 6 1 10 = (4, 15, 0) := by decide +kernel
theorem x2 : Rt.sub 2 3 2 3 = (0, 1, 0) := by decide +kernel
theorem x3 : Rt.mul (-2) 3 9 4 = (-3, 2, 0) := by decide +kernel
theorem x4 : Rt.div 1 2 0 1 = (0, 0, 14) := by decide +kernel
theorem x5 : Rt.add 1 99999 1 100000 = (0, 0, 3) := by decide +kernel
theorem x6 : Rt.new 6 (-4) = (-3, 2, 0) := by decide +kernel
theorem x7 : Rt.new 6 0 = (0, 0, 14) := by decide +kernel
theorem x8 : Rt.cmp 1 3 1 4 = (1, 0) := by decide +kernel
theorem x9 : Rt.add 2 4 0 1 = (0, 0, 1) := by decide +kernel
theorem x10 : Rt.valid 0 1 = true := by decide +kernel
theorem x11 : Rt.valid 0 2 = false := by decide +kernel
theorem x12 : Rt.valid 1 0 = false := by decide +kernel
set_option maxHeartbeats 4000000 in
set_option maxRecDepth 100000 in
theorem head_ok (w : World) : Calls Try.prog 10 #[] w fun e w' => e = .returned (.bool true) ∧ Below w.heap.size w w' := by
  go_enter Try.func10, Try.ntmps10
  go_wp2_with fail
  refine (lof_any 1 6 _).mono ?_
  rintro e w1 ⟨rfl, hb_w1⟩
  have hB_w1 : Below w.heap.size w w1 := below_on (by (repeat (first | assumption | exact Below.refl _ _ | refine below_set ?_ (by first | omega | (simp; done) | (simp; omega)) _ | refine below_drawn ?_ | refine below_drawnN ?_ _ | refine below_new ?_ _))) hb_w1
  have hz_w1 := hb_w1.size
  try simp only [World.size_setCell] at hz_w1
  try simp only [World.size_drew] at hz_w1
  try simp only [World.size_drewN] at hz_w1
  try simp only [World.size_alloc] at hz_w1
  try simp only [World.size_setCell] at hz_w1
  try simp only [World.size_drew] at hz_w1
  try simp only [World.size_drewN] at hz_w1
  try simp only [World.size_alloc] at hz_w1
  go_wp2_with fail
  refine (lof_any 1 10 _).mono ?_
  rintro e w2 ⟨rfl, hb_w2⟩
  have hB_w2 : Below w.heap.size w w2 := below_on (by first | ((repeat (first | assumption | exact Below.refl _ _ | refine below_set ?_ (by first | omega | (simp; done) | (simp; omega)) _ | refine below_drawn ?_ | refine below_drawnN ?_ _ | refine below_new ?_ _)); done) | (refine below_on hB_w1 ?_; (repeat (first | assumption | exact Below.refl _ _ | refine below_set ?_ (by first | omega | (simp; done) | (simp; omega)) _ | refine below_drawn ?_ | refine below_drawnN ?_ _ | refine below_new ?_ _)))) hb_w2
  have hz_w2 := hb_w2.size
  try simp only [World.size_setCell] at hz_w2
  try simp only [World.size_drew] at hz_w2
  try simp only [World.size_drewN] at hz_w2
  try simp only [World.size_alloc] at hz_w2
  try simp only [World.size_setCell] at hz_w2
  try simp only [World.size_drew] at hz_w2
  try simp only [World.size_drewN] at hz_w2
  try simp only [World.size_alloc] at hz_w2
  go_wp2_with fail
  refine (add_any 1 6 1 10 _ (by decide) (by decide)).mono ?_
  rw [x1]
  rintro e w3 ⟨rfl, hb_w3⟩
  have hB_w3 : Below w.heap.size w w3 := below_on (by first | ((repeat (first | assumption | exact Below.refl _ _ | refine below_set ?_ (by first | omega | (simp; done) | (simp; omega)) _ | refine below_drawn ?_ | refine below_drawnN ?_ _ | refine below_new ?_ _)); done) | (refine below_on hB_w2 ?_; (repeat (first | assumption | exact Below.refl _ _ | refine below_set ?_ (by first | omega | (simp; done) | (simp; omega)) _ | refine below_drawn ?_ | refine below_drawnN ?_ _ | refine below_new ?_ _)))) hb_w3
  have hz_w3 := hb_w3.size
  try simp only [World.size_setCell] at hz_w3
  try simp only [World.size_drew] at hz_w3
  try simp only [World.size_drewN] at hz_w3
  try simp only [World.size_alloc] at hz_w3
  try simp only [World.size_setCell] at hz_w3
  try simp only [World.size_drew] at hz_w3
  try simp only [World.size_drewN] at hz_w3
  try simp only [World.size_alloc] at hz_w3
  go_wp2_with fail
  refine (lof_any 2 3 _).mono ?_
  rintro e w4 ⟨rfl, hb_w4⟩
  have hB_w4 : Below w.heap.size w w4 := below_on (by first | ((repeat (first | assumption | exact Below.refl _ _ | refine below_set ?_ (by first | omega | (simp; done) | (simp; omega)) _ | refine below_drawn ?_ | refine below_drawnN ?_ _ | refine below_new ?_ _)); done) | (refine below_on hB_w3 ?_; (repeat (first | assumption | exact Below.refl _ _ | refine below_set ?_ (by first | omega | (simp; done) | (simp; omega)) _ | refine below_drawn ?_ | refine below_drawnN ?_ _ | refine below_new ?_ _)))) hb_w4
  have hz_w4 := hb_w4.size
  try simp only [World.size_setCell] at hz_w4
  try simp only [World.size_drew] at hz_w4
  try simp only [World.size_drewN] at hz_w4
  try simp only [World.size_alloc] at hz_w4
  try simp only [World.size_setCell] at hz_w4
  try simp only [World.size_drew] at hz_w4
  try simp only [World.size_drewN] at hz_w4
  try simp only [World.size_alloc] at hz_w4
  have hl0_w4 : w3.heap.size < w4.heap.size := by omega
  have a0_w4 : w4.cell? ⟨w3.heap.size, 0, none⟩ = some (.int .i64 4) := below_cell_of hb_w4 (by first | (go_simp; done) | (refine below_cell_of (w := w3) ?_ (by first | assumption | (go_simp; done)); (repeat (first | assumption | exact Below.refl _ _ | refine below_set ?_ (by first | omega | (simp; done) | (simp; omega)) _ | refine below_drawn ?_ | refine below_drawnN ?_ _ | refine below_new ?_ _))))
  have a1_w4 : w4.cell? ⟨w3.heap.size, 1, none⟩ = some (.int .i64 15) := below_cell_of hb_w4 (by first | (go_simp; done) | (refine below_cell_of (w := w3) ?_ (by first | assumption | (go_simp; done)); (repeat (first | assumption | exact Below.refl _ _ | refine below_set ?_ (by first | omega | (simp; done) | (simp; omega)) _ | refine below_drawn ?_ | refine below_drawnN ?_ _ | refine below_new ?_ _))))
  go_wp2_with fail
  refine (lof_any 2 3 _).mono ?_
  rintro e w5 ⟨rfl, hb_w5⟩
  have hB_w5 : Below w.heap.size w w5 := below_on (by first | ((repeat (first | assumption | exact Below.refl _ _ | refine below_set ?_ (by first | omega | (simp; done) | (simp; omega)) _ | refine below_drawn ?_ | refine below_drawnN ?_ _ | refine below_new ?_ _)); done) | (refine below_on hB_w4 ?_; (repeat (first | assumption | exact Below.refl _ _ | refine below_set ?_ (by first | omega | (simp; done) | (simp; omega)) _ | refine below_drawn ?_ | refine below_drawnN ?_ _ | refine below_new ?_ _)))) hb_w5
  have hz_w5 := hb_w5.size
  try simp only [World.size_setCell] at hz_w5
  try simp only [World.size_drew] at hz_w5
  try simp only [World.size_drewN] at hz_w5
  try simp only [World.size_alloc] at hz_w5
  try simp only [World.size_setCell] at hz_w5
  try simp only [World.size_drew] at hz_w5
  try simp only [World.size_drewN] at hz_w5
  try simp only [World.size_alloc] at hz_w5
  have hl0_w5 : w3.heap.size < w5.heap.size := by omega
  have a0_w5 : w5.cell? ⟨w3.heap.size, 0, none⟩ = some (.int .i64 4) := below_cell_of hb_w5 (by first | (go_simp; done) | (refine below_cell_of (w := w4) ?_ (by first | assumption | (go_simp; done)); (repeat (first | assumption | exact Below.refl _ _ | refine below_set ?_ (by first | omega | (simp; done) | (simp; omega)) _ | refine below_drawn ?_ | refine below_drawnN ?_ _ | refine below_new ?_ _))))
  have a1_w5 : w5.cell? ⟨w3.heap.size, 1, none⟩ = some (.int .i64 15) := below_cell_of hb_w5 (by first | (go_simp; done) | (refine below_cell_of (w := w4) ?_ (by first | assumption | (go_simp; done)); (repeat (first | assumption | exact Below.refl _ _ | refine below_set ?_ (by first | omega | (simp; done) | (simp; omega)) _ | refine below_drawn ?_ | refine below_drawnN ?_ _ | refine below_new ?_ _))))
  go_wp2_with fail
  refine (sub_any 2 3 2 3 _ (by decide) (by decide)).mono ?_
  rw [x2]
  rintro e w6 ⟨rfl, hb_w6⟩
  have hB_w6 : Below w.heap.size w w6 := below_on (by first | ((repeat (first | assumption | exact Below.refl _ _ | refine below_set ?_ (by first | omega | (simp; done) | (simp; omega)) _ | refine below_drawn ?_ | refine below_drawnN ?_ _ | refine below_new ?_ _)); done) | (refine below_on hB_w5 ?_; (repeat (first | assumption | exact Below.refl _ _ | refine below_set ?_ (by first | omega | (simp; done) | (simp; omega)) _ | refine below_drawn ?_ | refine below_drawnN ?_ _ | refine below_new ?_ _)))) hb_w6
  have hz_w6 := hb_w6.size
  try simp only [World.size_setCell] at hz_w6
  try simp only [World.size_drew] at hz_w6
  try simp only [World.size_drewN] at hz_w6
  try simp only [World.size_alloc] at hz_w6
  try simp only [World.size_setCell] at hz_w6
  try simp only [World.size_drew] at hz_w6
  try simp only [World.size_drewN] at hz_w6
  try simp only [World.size_alloc] at hz_w6
  have hl0_w6 : w3.heap.size < w6.heap.size := by omega
  have a0_w6 : w6.cell? ⟨w3.heap.size, 0, none⟩ = some (.int .i64 4) := below_cell_of hb_w6 (by first | (go_simp; done) | (refine below_cell_of (w := w5) ?_ (by first | assumption | (go_simp; done)); (repeat (first | assumption | exact Below.refl _ _ | refine below_set ?_ (by first | omega | (simp; done) | (simp; omega)) _ | refine below_drawn ?_ | refine below_drawnN ?_ _ | refine below_new ?_ _))))
  have a1_w6 : w6.cell? ⟨w3.heap.size, 1, none⟩ = some (.int .i64 15) := below_cell_of hb_w6 (by first | (go_simp; done) | (refine below_cell_of (w := w5) ?_ (by first | assumption | (go_simp; done)); (repeat (first | assumption | exact Below.refl _ _ | refine below_set ?_ (by first | omega | (simp; done) | (simp; omega)) _ | refine below_drawn ?_ | refine below_drawnN ?_ _ | refine below_new ?_ _))))
  go_wp2_with fail
  refine (lof_any (-2) 3 _).mono ?_
  rintro e w7 ⟨rfl, hb_w7⟩
  have hB_w7 : Below w.heap.size w w7 := below_on (by first | ((repeat (first | assumption | exact Below.refl _ _ | refine below_set ?_ (by first | omega | (simp; done) | (simp; omega)) _ | refine below_drawn ?_ | refine below_drawnN ?_ _ | refine below_new ?_ _)); done) | (refine below_on hB_w6 ?_; (repeat (first | assumption | exact Below.refl _ _ | refine below_set ?_ (by first | omega | (simp; done) | (simp; omega)) _ | refine below_drawn ?_ | refine below_drawnN ?_ _ | refine below_new ?_ _)))) hb_w7
  have hz_w7 := hb_w7.size
  try simp only [World.size_setCell] at hz_w7
  try simp only [World.size_drew] at hz_w7
  try simp only [World.size_drewN] at hz_w7
  try simp only [World.size_alloc] at hz_w7
  try simp only [World.size_setCell] at hz_w7
  try simp only [World.size_drew] at hz_w7
  try simp only [World.size_drewN] at hz_w7
  try simp only [World.size_alloc] at hz_w7
  have hl0_w7 : w3.heap.size < w7.heap.size := by omega
  have hl1_w7 : w6.heap.size < w7.heap.size := by omega
  have a0_w7 : w7.cell? ⟨w3.heap.size, 0, none⟩ = some (.int .i64 4) := below_cell_of hb_w7 (by first | (go_simp; done) | (refine below_cell_of (w := w6) ?_ (by first | assumption | (go_simp; done)); (repeat (first | assumption | exact Below.refl _ _ | refine below_set ?_ (by first | omega | (simp; done) | (simp; omega)) _ | refine below_drawn ?_ | refine below_drawnN ?_ _ | refine below_new ?_ _))))
  have a1_w7 : w7.cell? ⟨w3.heap.size, 1, none⟩ = some (.int .i64 15) := below_cell_of hb_w7 (by first | (go_simp; done) | (refine below_cell_of (w := w6) ?_ (by first | assumption | (go_simp; done)); (repeat (first | assumption | exact Below.refl _ _ | refine below_set ?_ (by first | omega | (simp; done) | (simp; omega)) _ | refine below_drawn ?_ | refine below_drawnN ?_ _ | refine below_new ?_ _))))
  have b0_w7 : w7.cell? ⟨w6.heap.size, 0, none⟩ = some (.int .i64 0) := below_cell_of hb_w7 (by first | (go_simp; done) | (refine below_cell_of (w := w6) ?_ (by first | assumption | (go_simp; done)); (repeat (first | assumption | exact Below.refl _ _ | refine below_set ?_ (by first | omega | (simp; done) | (simp; omega)) _ | refine below_drawn ?_ | refine below_drawnN ?_ _ | refine below_new ?_ _))))
  have b1_w7 : w7.cell? ⟨w6.heap.size, 1, none⟩ = some (.int .i64 1) := below_cell_of hb_w7 (by first | (go_simp; done) | (refine below_cell_of (w := w6) ?_ (by first | assumption | (go_simp; done)); (repeat (first | assumption | exact Below.refl _ _ | refine below_set ?_ (by first | omega | (simp; done) | (simp; omega)) _ | refine below_drawn ?_ | refine below_drawnN ?_ _ | refine below_new ?_ _))))
  go_wp2_with fail
  refine (lof_any 9 4 _).mono ?_
  rintro e w8 ⟨rfl, hb_w8⟩
  have hB_w8 : Below w.heap.size w w8 := below_on (by first | ((repeat (first | assumption | exact Below.refl _ _ | refine below_set ?_ (by first | omega | (simp; done) | (simp; omega)) _ | refine below_drawn ?_ | refine below_drawnN ?_ _ | refine below_new ?_ _)); done) | (refine below_on hB_w7 ?_; (repeat (first | assumption | exact Below.refl _ _ | refine below_set ?_ (by first | omega | (simp; done) | (simp; omega)) _ | refine below_drawn ?_ | refine below_drawnN ?_ _ | refine below_new ?_ _)))) hb_w8
  have hz_w8 := hb_w8.size
  try simp only [World.size_setCell] at hz_w8
  try simp only [World.size_drew] at hz_w8
  try simp only [World.size_drewN] at hz_w8
  try simp only [World.size_alloc] at hz_w8
  try simp only [World.size_setCell] at hz_w8
  try simp only [World.size_drew] at hz_w8
  try simp only [World.size_drewN] at hz_w8
  try simp only [World.size_alloc] at hz_w8
  have hl0_w8 : w3.heap.size < w8.heap.size := by omega
  have hl1_w8 : w6.heap.size < w8.heap.size := by omega
  have a0_w8 : w8.cell? ⟨w3.heap.size, 0, none⟩ = some (.int .i64 4) := below_cell_of hb_w8 (by first | (go_simp; done) | (refine below_cell_of (w := w7) ?_ (by first | assumption | (go_simp; done)); (repeat (first | assumption | exact Below.refl _ _ | refine below_set ?_ (by first | omega | (simp; done) | (simp; omega)) _ | refine below_drawn ?_ | refine below_drawnN ?_ _ | refine below_new ?_ _))))
  have a1_w8 : w8.cell? ⟨w3.heap.size, 1, none⟩ = some (.int .i64 15) := below_cell_of hb_w8 (by first | (go_simp; done) | (refine below_cell_of (w := w7) ?_ (by first | assumption | (go_simp; done)); (repeat (first | assumption | exact Below.refl _ _ | refine below_set ?_ (by first | omega | (simp; done) | (simp; omega)) _ | refine below_drawn ?_ | refine below_drawnN ?_ _ | refine below_new ?_ _))))
  have b0_w8 : w8.cell? ⟨w6.heap.size, 0, none⟩ = some (.int .i64 0) := below_cell_of hb_w8 (by first | (go_simp; done) | (refine below_cell_of (w := w7) ?_ (by first | assumption | (go_simp; done)); (repeat (first | assumption | exact Below.refl _ _ | refine below_set ?_ (by first | omega | (simp; done) | (simp; omega)) _ | refine below_drawn ?_ | refine below_drawnN ?_ _ | refine below_new ?_ _))))
  have b1_w8 : w8.cell? ⟨w6.heap.size, 1, none⟩ = some (.int .i64 1) := below_cell_of hb_w8 (by first | (go_simp; done) | (refine below_cell_of (w := w7) ?_ (by first | assumption | (go_simp; done)); (repeat (first | assumption | exact Below.refl _ _ | refine below_set ?_ (by first | omega | (simp; done) | (simp; omega)) _ | refine below_drawn ?_ | refine below_drawnN ?_ _ | refine below_new ?_ _))))
  go_wp2_with fail
  refine (mul_any (-2) 3 9 4 _ (by decide) (by decide)).mono ?_
  rw [x3]
  rintro e w9 ⟨rfl, hb_w9⟩
  have hB_w9 : Below w.heap.size w w9 := below_on (by first | ((repeat (first | assumption | exact Below.refl _ _ | refine below_set ?_ (by first | omega | (simp; done) | (simp; omega)) _ | refine below_drawn ?_ | refine below_drawnN ?_ _ | refine below_new ?_ _)); done) | (refine below_on hB_w8 ?_; (repeat (first | assumption | exact Below.refl _ _ | refine below_set ?_ (by first | omega | (simp; done) | (simp; omega)) _ | refine below_drawn ?_ | refine below_drawnN ?_ _ | refine below_new ?_ _)))) hb_w9
  have hz_w9 := hb_w9.size
  try simp only [World.size_setCell] at hz_w9
  try simp only [World.size_drew] at hz_w9
  try simp only [World.size_drewN] at hz_w9
  try simp only [World.size_alloc] at hz_w9
  try simp only [World.size_setCell] at hz_w9
  try simp only [World.size_drew] at hz_w9
  try simp only [World.size_drewN] at hz_w9
  try simp only [World.size_alloc] at hz_w9
  have hl0_w9 : w3.heap.size < w9.heap.size := by omega
  have hl1_w9 : w6.heap.size < w9.heap.size := by omega
  have a0_w9 : w9.cell? ⟨w3.heap.size, 0, none⟩ = some (.int .i64 4) := below_cell_of hb_w9 (by first | (go_simp; done) | (refine below_cell_of (w := w8) ?_ (by first | assumption | (go_simp; done)); (repeat (first | assumption | exact Below.refl _ _ | refine below_set ?_ (by first | omega | (simp; done) | (simp; omega)) _ | refine below_drawn ?_ | refine below_drawnN ?_ _ | refine below_new ?_ _))))
  have a1_w9 : w9.cell? ⟨w3.heap.size, 1, none⟩ = some (.int .i64 15) := below_cell_of hb_w9 (by first | (go_simp; done) | (refine below_cell_of (w := w8) ?_ (by first | assumption | (go_simp; done)); (repeat (first | assumption | exact Below.refl _ _ | refine below_set ?_ (by first | omega | (simp; done) | (simp; omega)) _ | refine below_drawn ?_ | refine below_drawnN ?_ _ | refine below_new ?_ _))))
  have b0_w9 : w9.cell? ⟨w6.heap.size, 0, none⟩ = some (.int .i64 0) := below_cell_of hb_w9 (by first | (go_simp; done) | (refine below_cell_of (w := w8) ?_ (by first | assumption | (go_simp; done)); (repeat (first | assumption | exact Below.refl _ _ | refine below_set ?_ (by first | omega | (simp; done) | (simp; omega)) _ | refine below_drawn ?_ | refine below_drawnN ?_ _ | refine below_new ?_ _))))
  have b1_w9 : w9.cell? ⟨w6.heap.size, 1, none⟩ = some (.int .i64 1) := below_cell_of hb_w9 (by first | (go_simp; done) | (refine below_cell_of (w := w8) ?_ (by first | assumption | (go_simp; done)); (repeat (first | assumption | exact Below.refl _ _ | refine below_set ?_ (by first | omega | (simp; done) | (simp; omega)) _ | refine below_drawn ?_ | refine below_drawnN ?_ _ | refine below_new ?_ _))))
  go_wp2_with fail
  refine (lof_any 1 2 _).mono ?_
  rintro e w10 ⟨rfl, hb_w10⟩
  have hB_w10 : Below w.heap.size w w10 := below_on (by first | ((repeat (first | assumption | exact Below.refl _ _ | refine below_set ?_ (by first | omega | (simp; done) | (simp; omega)) _ | refine below_drawn ?_ | refine below_drawnN ?_ _ | refine below_new ?_ _)); done) | (refine below_on hB_w9 ?_; (repeat (first | assumption | exact Below.refl _ _ | refine below_set ?_ (by first | omega | (simp; done) | (simp; omega)) _ | refine below_drawn ?_ | refine below_drawnN ?_ _ | refine below_new ?_ _)))) hb_w10
  have hz_w10 := hb_w10.size
  try simp only [World.size_setCell] at hz_w10
  try simp only [World.size_drew] at hz_w10
  try simp only [World.size_drewN] at hz_w10
  try simp only [World.size_alloc] at hz_w10
  try simp only [World.size_setCell] at hz_w10
  try simp only [World.size_drew] at hz_w10
  try simp only [World.size_drewN] at hz_w10
  try simp only [World.size_alloc] at hz_w10
  have hl0_w10 : w3.heap.size < w10.heap.size := by omega
  have hl1_w10 : w6.heap.size < w10.heap.size := by omega
  have hl2_w10 : w9.heap.size < w10.heap.size := by omega
  have a0_w10 : w10.cell? ⟨w3.heap.size, 0, none⟩ = some (.int .i64 4) := below_cell_of hb_w10 (by first | (go_simp; done) | (refine below_cell_of (w := w9) ?_ (by first | assumption | (go_simp; done)); (repeat (first | assumption | exact Below.refl _ _ | refine below_set ?_ (by first | omega | (simp; done) | (simp; omega)) _ | refine below_drawn ?_ | refine below_drawnN ?_ _ | refine below_new ?_ _))))
  have a1_w10 : w10.cell? ⟨w3.heap.size, 1, none⟩ = some (.int .i64 15) := below_cell_of hb_w10 (by first | (go_simp; done) | (refine below_cell_of (w := w9) ?_ (by first | assumption | (go_simp; done)); (repeat (first | assumption | exact Below.refl _ _ | refine below_set ?_ (by first | omega | (simp; done) | (simp; omega)) _ | refine below_drawn ?_ | refine below_drawnN ?_ _ | refine below_new ?_ _))))
  have b0_w10 : w10.cell? ⟨w6.heap.size, 0, none⟩ = some (.int .i64 0) := below_cell_of hb_w10 (by first | (go_simp; done) | (refine below_cell_of (w := w9) ?_ (by first | assumption | (go_simp; done)); (repeat (first | assumption | exact Below.refl _ _ | refine below_set ?_ (by first | omega | (simp; done) | (simp; omega)) _ | refine below_drawn ?_ | refine below_drawnN ?_ _ | refine below_new ?_ _))))
  have b1_w10 : w10.cell? ⟨w6.heap.size, 1, none⟩ = some (.int .i64 1) := below_cell_of hb_w10 (by first | (go_simp; done) | (refine below_cell_of (w := w9) ?_ (by first | assumption | (go_simp; done)); (repeat (first | assumption | exact Below.refl _ _ | refine below_set ?_ (by first | omega | (simp; done) | (simp; omega)) _ | refine below_drawn ?_ | refine below_drawnN ?_ _ | refine below_new ?_ _))))
  have c0_w10 : w10.cell? ⟨w9.heap.size, 0, none⟩ = some (.int .i64 (-3)) := below_cell_of hb_w10 (by first | (go_simp; done) | (refine below_cell_of (w := w9) ?_ (by first | assumption | (go_simp; done)); (repeat (first | assumption | exact Below.refl _ _ | refine below_set ?_ (by first | omega | (simp; done) | (simp; omega)) _ | refine below_drawn ?_ | refine below_drawnN ?_ _ | refine below_new ?_ _))))
  have c1_w10 : w10.cell? ⟨w9.heap.size, 1, none⟩ = some (.int .i64 2) := below_cell_of hb_w10 (by first | (go_simp; done) | (refine below_cell_of (w := w9) ?_ (by first | assumption | (go_simp; done)); (repeat (first | assumption | exact Below.refl _ _ | refine below_set ?_ (by first | omega | (simp; done) | (simp; omega)) _ | refine below_drawn ?_ | refine below_drawnN ?_ _ | refine below_new ?_ _))))
  go_wp2_with fail
  refine (lof_any 0 1 _).mono ?_
  rintro e w11 ⟨rfl, hb_w11⟩
  have hB_w11 : Below w.heap.size w w11 := below_on (by first | ((repeat (first | assumption | exact Below.refl _ _ | refine below_set ?_ (by first | omega | (simp; done) | (simp; omega)) _ | refine below_drawn ?_ | refine below_drawnN ?_ _ | refine below_new ?_ _)); done) | (refine below_on hB_w10 ?_; (repeat (first | assumption | exact Below.refl _ _ | refine below_set ?_ (by first | omega | (simp; done) | (simp; omega)) _ | refine below_drawn ?_ | refine below_drawnN ?_ _ | refine below_new ?_ _)))) hb_w11
  have hz_w11 := hb_w11.size
  try simp only [World.size_setCell] at hz_w11
  try simp only [World.size_drew] at hz_w11
  try simp only [World.size_drewN] at hz_w11
  try simp only [World.size_alloc] at hz_w11
  try simp only [World.size_setCell] at hz_w11
  try simp only [World.size_drew] at hz_w11
  try simp only [World.size_drewN] at hz_w11
  try simp only [World.size_alloc] at hz_w11
  have hl0_w11 : w3.heap.size < w11.heap.size := by omega
  have hl1_w11 : w6.heap.size < w11.heap.size := by omega
  have hl2_w11 : w9.heap.size < w11.heap.size := by omega
  have a0_w11 : w11.cell? ⟨w3.heap.size, 0, none⟩ = some (.int .i64 4) := below_cell_of hb_w11 (by first | (go_simp; done) | (refine below_cell_of (w := w10) ?_ (by first | assumption | (go_simp; done)); (repeat (first | assumption | exact Below.refl _ _ | refine below_set ?_ (by first | omega | (simp; done) | (simp; omega)) _ | refine below_drawn ?_ | refine below_drawnN ?_ _ | refine below_new ?_ _))))
  have a1_w11 : w11.cell? ⟨w3.heap.size, 1, none⟩ = some (.int .i64 15) := below_cell_of hb_w11 (by first | (go_simp; done) | (refine below_cell_of (w := w10) ?_ (by first | assumption | (go_simp; done)); (repeat (first | assumption | exact Below.refl _ _ | refine below_set ?_ (by first | omega | (simp; done) | (simp; omega)) _ | refine below_drawn ?_ | refine below_drawnN ?_ _ | refine below_new ?_ _))))
  have b0_w11 : w11.cell? ⟨w6.heap.size, 0, none⟩ = some (.int .i64 0) := below_cell_of hb_w11 (by first | (go_simp; done) | (refine below_cell_of (w := w10) ?_ (by first | assumption | (go_simp; done)); (repeat (first | assumption | exact Below.refl _ _ | refine below_set ?_ (by first | omega | (simp; done) | (simp; omega)) _ | refine below_drawn ?_ | refine below_drawnN ?_ _ | refine below_new ?_ _))))
  have b1_w11 : w11.cell? ⟨w6.heap.size, 1, none⟩ = some (.int .i64 1) := below_cell_of hb_w11 (by first | (go_simp; done) | (refine below_cell_of (w := w10) ?_ (by first | assumption | (go_simp; done)); (repeat (first | assumption | exact Below.refl _ _ | refine below_set ?_ (by first | omega | (simp; done) | (simp; omega)) _ | refine below_drawn ?_ | refine below_drawnN ?_ _ | refine below_new ?_ _))))
  have c0_w11 : w11.cell? ⟨w9.heap.size, 0, none⟩ = some (.int .i64 (-3)) := below_cell_of hb_w11 (by first | (go_simp; done) | (refine below_cell_of (w := w10) ?_ (by first | assumption | (go_simp; done)); (repeat (first | assumption | exact Below.refl _ _ | refine below_set ?_ (by first | omega | (simp; done) | (simp; omega)) _ | refine below_drawn ?_ | refine below_drawnN ?_ _ | refine below_new ?_ _))))
  have c1_w11 : w11.cell? ⟨w9.heap.size, 1, none⟩ = some (.int .i64 2) := below_cell_of hb_w11 (by first | (go_simp; done) | (refine below_cell_of (w := w10) ?_ (by first | assumption | (go_simp; done)); (repeat (first | assumption | exact Below.refl _ _ | refine below_set ?_ (by first | omega | (simp; done) | (simp; omega)) _ | refine below_drawn ?_ | refine below_drawnN ?_ _ | refine below_new ?_ _))))
  go_wp2_with fail
  refine (div_any 1 2 0 1 _ (by decide) (by decide)).mono ?_
  rw [x4]
  rintro e w12 ⟨rfl, hb_w12⟩
  have hB_w12 : Below w.heap.size w w12 := below_on (by first | ((repeat (first | assumption | exact Below.refl _ _ | refine below_set ?_ (by first | omega | (simp; done) | (simp; omega)) _ | refine below_drawn ?_ | refine below_drawnN ?_ _ | refine below_new ?_ _)); done) | (refine below_on hB_w11 ?_; (repeat (first | assumption | exact Below.refl _ _ | refine below_set ?_ (by first | omega | (simp; done) | (simp; omega)) _ | refine below_drawn ?_ | refine below_drawnN ?_ _ | refine below_new ?_ _)))) hb_w12
  have hz_w12 := hb_w12.size
  try simp only [World.size_setCell] at hz_w12
  try simp only [World.size_drew] at hz_w12
  try simp only [World.size_drewN] at hz_w12
  try simp only [World.size_alloc] at hz_w12
  try simp only [World.size_setCell] at hz_w12
  try simp only [World.size_drew] at hz_w12
  try simp only [World.size_drewN] at hz_w12
  try simp only [World.size_alloc] at hz_w12
  have hl0_w12 : w3.heap.size < w12.heap.size := by omega
  have hl1_w12 : w6.heap.size < w12.heap.size := by omega
  have hl2_w12 : w9.heap.size < w12.heap.size := by omega
  have a0_w12 : w12.cell? ⟨w3.heap.size, 0, none⟩ = some (.int .i64 4) := below_cell_of hb_w12 (by first | (go_simp; done) | (refine below_cell_of (w := w11) ?_ (by first | assumption | (go_simp; done)); (repeat (first | assumption | exact Below.refl _ _ | refine below_set ?_ (by first | omega | (simp; done) | (simp; omega)) _ | refine below_drawn ?_ | refine below_drawnN ?_ _ | refine below_new ?_ _))))
  have a1_w12 : w12.cell? ⟨w3.heap.size, 1, none⟩ = some (.int .i64 15) := below_cell_of hb_w12 (by first | (go_simp; done) | (refine below_cell_of (w := w11) ?_ (by first | assumption | (go_simp; done)); (repeat (first | assumption | exact Below.refl _ _ | refine below_set ?_ (by first | omega | (simp; done) | (simp; omega)) _ | refine below_drawn ?_ | refine below_drawnN ?_ _ | refine below_new ?_ _))))
  have b0_w12 : w12.cell? ⟨w6.heap.size, 0, none⟩ = some (.int .i64 0) := below_cell_of hb_w12 (by first | (go_simp; done) | (refine below_cell_of (w := w11) ?_ (by first | assumption | (go_simp; done)); (repeat (first | assumption | exact Below.refl _ _ | refine below_set ?_ (by first | omega | (simp; done) | (simp; omega)) _ | refine below_drawn ?_ | refine below_drawnN ?_ _ | refine below_new ?_ _))))
  have b1_w12 : w12.cell? ⟨w6.heap.size, 1, none⟩ = some (.int .i64 1) := below_cell_of hb_w12 (by first | (go_simp; done) | (refine below_cell_of (w := w11) ?_ (by first | assumption | (go_simp; done)); (repeat (first | assumption | exact Below.refl _ _ | refine below_set ?_ (by first | omega | (simp; done) | (simp; omega)) _ | refine below_drawn ?_ | refine below_drawnN ?_ _ | refine below_new ?_ _))))
  have c0_w12 : w12.cell? ⟨w9.heap.size, 0, none⟩ = some (.int .i64 (-3)) := below_cell_of hb_w12 (by first | (go_simp; done) | (refine below_cell_of (w := w11) ?_ (by first | assumption | (go_simp; done)); (repeat (first | assumption | exact Below.refl _ _ | refine below_set ?_ (by first | omega | (simp; done) | (simp; omega)) _ | refine below_drawn ?_ | refine below_drawnN ?_ _ | refine below_new ?_ _))))
  have c1_w12 : w12.cell? ⟨w9.heap.size, 1, none⟩ = some (.int .i64 2) := below_cell_of hb_w12 (by first | (go_simp; done) | (refine below_cell_of (w := w11) ?_ (by first | assumption | (go_simp; done)); (repeat (first | assumption | exact Below.refl _ _ | refine below_set ?_ (by first | omega | (simp; done) | (simp; omega)) _ | refine below_drawn ?_ | refine below_drawnN ?_ _ | refine below_new ?_ _))))
  go_wp2_with fail
  refine (lof_any 1 99999 _).mono ?_
  rintro e w13 ⟨rfl, hb_w13⟩
  have hB_w13 : Below w.heap.size w w13 := below_on (by first | ((repeat (first | assumption | exact Below.refl _ _ | refine below_set ?_ (by first | omega | (simp; done) | (simp; omega)) _ | refine below_drawn ?_ | refine below_drawnN ?_ _ | refine below_new ?_ _)); done) | (refine below_on hB_w12 ?_; (repeat (first | assumption | exact Below.refl _ _ | refine below_set ?_ (by first | omega | (simp; done) | (simp; omega)) _ | refine below_drawn ?_ | refine below_drawnN ?_ _ | refine below_new ?_ _)))) hb_w13
  have hz_w13 := hb_w13.size
  try simp only [World.size_setCell] at hz_w13
  try simp only [World.size_drew] at hz_w13
  try simp only [World.size_drewN] at hz_w13
  try simp only [World.size_alloc] at hz_w13
  try simp only [World.size_setCell] at hz_w13
  try simp only [World.size_drew] at hz_w13
  try simp only [World.size_drewN] at hz_w13
  try simp only [World.size_alloc] at hz_w13
  have hl0_w13 : w3.heap.size < w13.heap.size := by omega
  have hl1_w13 : w6.heap.size < w13.heap.size := by omega
  have hl2_w13 : w9.heap.size < w13.heap.size := by omega
  have a0_w13 : w13.cell? ⟨w3.heap.size, 0, none⟩ = some (.int .i64 4) := below_cell_of hb_w13 (by first | (go_simp; done) | (refine below_cell_of (w := w12) ?_ (by first | assumption | (go_simp; done)); (repeat (first | assumption | exact Below.refl _ _ | refine below_set ?_ (by first | omega | (simp; done) | (simp; omega)) _ | refine below_drawn ?_ | refine below_drawnN ?_ _ | refine below_new ?_ _))))
  have a1_w13 : w13.cell? ⟨w3.heap.size, 1, none⟩ = some (.int .i64 15) := below_cell_of hb_w13 (by first | (go_simp; done) | (refine below_cell_of (w := w12) ?_ (by first | assumption | (go_simp; done)); (repeat (first | assumption | exact Below.refl _ _ | refine below_set ?_ (by first | omega | (simp; done) | (simp; omega)) _ | refine below_drawn ?_ | refine below_drawnN ?_ _ | refine below_new ?_ _))))
  have b0_w13 : w13.cell? ⟨w6.heap.size, 0, none⟩ = some (.int .i64 0) := below_cell_of hb_w13 (by first | (go_simp; done) | (refine below_cell_of (w := w12) ?_ (by first | assumption | (go_simp; done)); (repeat (first | assumption | exact Below.refl _ _ | refine below_set ?_ (by first | omega | (simp; done) | (simp; omega)) _ | refine below_drawn ?_ | refine below_drawnN ?_ _ | refine below_new ?_ _))))
  have b1_w13 : w13.cell? ⟨w6.heap.size, 1, none⟩ = some (.int .i64 1) := below_cell_of hb_w13 (by first | (go_simp; done) | (refine below_cell_of (w := w12) ?_ (by first | assumption | (go_simp; done)); (repeat (first | assumption | exact Below.refl _ _ | refine below_set ?_ (by first | omega | (simp; done) | (simp; omega)) _ | refine below_drawn ?_ | refine below_drawnN ?_ _ | refine below_new ?_ _))))
  have c0_w13 : w13.cell? ⟨w9.heap.size, 0, none⟩ = some (.int .i64 (-3)) := below_cell_of hb_w13 (by first | (go_simp; done) | (refine below_cell_of (w := w12) ?_ (by first | assumption | (go_simp; done)); (repeat (first | assumption | exact Below.refl _ _ | refine below_set ?_ (by first | omega | (simp; done) | (simp; omega)) _ | refine below_drawn ?_ | refine below_drawnN ?_ _ | refine below_new ?_ _))))
  have c1_w13 : w13.cell? ⟨w9.heap.size, 1, none⟩ = some (.int .i64 2) := below_cell_of hb_w13 (by first | (go_simp; done) | (refine below_cell_of (w := w12) ?_ (by first | assumption | (go_simp; done)); (repeat (first | assumption | exact Below.refl _ _ | refine below_set ?_ (by first | omega | (simp; done) | (simp; omega)) _ | refine below_drawn ?_ | refine below_drawnN ?_ _ | refine below_new ?_ _))))
  go_wp2_with fail
  refine (lof_any 1 100000 _).mono ?_
  rintro e w14 ⟨rfl, hb_w14⟩
  have hB_w14 : Below w.heap.size w w14 := below_on (by first | ((repeat (first | assumption | exact Below.refl _ _ | refine below_set ?_ (by first | omega | (simp; done) | (simp; omega)) _ | refine below_drawn ?_ | refine below_drawnN ?_ _ | refine below_new ?_ _)); done) | (refine below_on hB_w13 ?_; (repeat (first | assumption | exact Below.refl _ _ | refine below_set ?_ (by first | omega | (simp; done) | (simp; omega)) _ | refine below_drawn ?_ | refine below_drawnN ?_ _ | refine below_new ?_ _)))) hb_w14
  have hz_w14 := hb_w14.size
  try simp only [World.size_setCell] at hz_w14
  try simp only [World.size_drew] at hz_w14
  try simp only [World.size_drewN] at hz_w14
  try simp only [World.size_alloc] at hz_w14
  try simp only [World.size_setCell] at hz_w14
  try simp only [World.size_drew] at hz_w14
  try simp only [World.size_drewN] at hz_w14
  try simp only [World.size_alloc] at hz_w14
  have hl0_w14 : w3.heap.size < w14.heap.size := by omega
  have hl1_w14 : w6.heap.size < w14.heap.size := by omega
  have hl2_w14 : w9.heap.size < w14.heap.size := by omega
  have a0_w14 : w14.cell? ⟨w3.heap.size, 0, none⟩ = some (.int .i64 4) := below_cell_of hb_w14 (by first | (go_simp; done) | (refine below_cell_of (w := w13) ?_ (by first | assumption | (go_simp; done)); (repeat (first | assumption | exact Below.refl _ _ | refine below_set ?_ (by first | omega | (simp; done) | (simp; omega)) _ | refine below_drawn ?_ | refine below_drawnN ?_ _ | refine below_new ?_ _))))
  have a1_w14 : w14.cell? ⟨w3.heap.size, 1, none⟩ = some (.int .i64 15) := below_cell_of hb_w14 (by first | (go_simp; done) | (refine below_cell_of (w := w13) ?_ (by first | assumption | (go_simp; done)); (repeat (first | assumption | exact Below.refl _ _ | refine below_set ?_ (by first | omega | (simp; done) | (simp; omega)) _ | refine below_drawn ?_ | refine below_drawnN ?_ _ | refine below_new ?_ _))))
  have b0_w14 : w14.cell? ⟨w6.heap.size, 0, none⟩ = some (.int .i64 0) := below_cell_of hb_w14 (by first | (go_simp; done) | (refine below_cell_of (w := w13) ?_ (by first | assumption | (go_simp; done)); (repeat (first | assumption | exact Below.refl _ _ | refine below_set ?_ (by first | omega | (simp; done) | (simp; omega)) _ | refine below_drawn ?_ | refine below_drawnN ?_ _ | refine below_new ?_ _))))
  have b1_w14 : w14.cell? ⟨w6.heap.size, 1, none⟩ = some (.int .i64 1) := below_cell_of hb_w14 (by first | (go_simp; done) | (refine below_cell_of (w := w13) ?_ (by first | assumption | (go_simp; done)); (repeat (first | assumption | exact Below.refl _ _ | refine below_set ?_ (by first | omega | (simp; done) | (simp; omega)) _ | refine below_drawn ?_ | refine below_drawnN ?_ _ | refine below_new ?_ _))))
  have c0_w14 : w14.cell? ⟨w9.heap.size, 0, none⟩ = some (.int .i64 (-3)) := below_cell_of hb_w14 (by first | (go_simp; done) | (refine below_cell_of (w := w13) ?_ (by first | assumption | (go_simp; done)); (repeat (first | assumption | exact Below.refl _ _ | refine below_set ?_ (by first | omega | (simp; done) | (simp; omega)) _ | refine below_drawn ?_ | refine below_drawnN ?_ _ | refine below_new ?_ _))))
  have c1_w14 : w14.cell? ⟨w9.heap.size, 1, none⟩ = some (.int .i64 2) := below_cell_of hb_w14 (by first | (go_simp; done) | (refine below_cell_of (w := w13) ?_ (by first | assumption | (go_simp; done)); (repeat (first | assumption | exact Below.refl _ _ | refine below_set ?_ (by first | omega | (simp; done) | (simp; omega)) _ | refine below_drawn ?_ | refine below_drawnN ?_ _ | refine below_new ?_ _))))
  go_wp2_with fail
  refine (add_any 1 99999 1 100000 _ (by decide) (by decide)).mono ?_
  rw [x5]
  rintro e w15 ⟨rfl, hb_w15⟩
  have hB_w15 : Below w.heap.size w w15 := below_on (by first | ((repeat (first | assumption | exact Below.refl _ _ | refine below_set ?_ (by first | omega | (simp; done) | (simp; omega)) _ | refine below_drawn ?_ | refine below_drawnN ?_ _ | refine below_new ?_ _)); done) | (refine below_on hB_w14 ?_; (repeat (first | assumption | exact Below.refl _ _ | refine below_set ?_ (by first | omega | (simp; done) | (simp; omega)) _ | refine below_drawn ?_ | refine below_drawnN ?_ _ | refine below_new ?_ _)))) hb_w15
  have hz_w15 := hb_w15.size
  try simp only [World.size_setCell] at hz_w15
  try simp only [World.size_drew] at hz_w15
  try simp only [World.size_drewN] at hz_w15
  try simp only [World.size_alloc] at hz_w15
  try simp only [World.size_setCell] at hz_w15
  try simp only [World.size_drew] at hz_w15
  try simp only [World.size_drewN] at hz_w15
  try simp only [World.size_alloc] at hz_w15
  have hl0_w15 : w3.heap.size < w15.heap.size := by omega
  have hl1_w15 : w6.heap.size < w15.heap.size := by omega
  have hl2_w15 : w9.heap.size < w15.heap.size := by omega
  have a0_w15 : w15.cell? ⟨w3.heap.size, 0, none⟩ = some (.int .i64 4) := below_cell_of hb_w15 (by first | (go_simp; done) | (refine below_cell_of (w := w14) ?_ (by first | assumption | (go_simp; done)); (repeat (first | assumption | exact Below.refl _ _ | refine below_set ?_ (by first | omega | (simp; done) | (simp; omega)) _ | refine below_drawn ?_ | refine below_drawnN ?_ _ | refine below_new ?_ _))))
  have a1_w15 : w15.cell? ⟨w3.heap.size, 1, none⟩ = some (.int .i64 15) := below_cell_of hb_w15 (by first | (go_simp; done) | (refine below_cell_of (w := w14) ?_ (by first | assumption | (go_simp; done)); (repeat (first | assumption | exact Below.refl _ _ | refine below_set ?_ (by first | omega | (simp; done) | (simp; omega)) _ | refine below_drawn ?_ | refine below_drawnN ?_ _ | refine below_new ?_ _))))
  have b0_w15 : w15.cell? ⟨w6.heap.size, 0, none⟩ = some (.int .i64 0) := below_cell_of hb_w15 (by first | (go_simp; done) | (refine below_cell_of (w := w14) ?_ (by first | assumption | (go_simp; done)); (repeat (first | assumption | exact Below.refl _ _ | refine below_set ?_ (by first | omega | (simp; done) | (simp; omega)) _ | refine below_drawn ?_ | refine below_drawnN ?_ _ | refine below_new ?_ _))))
  have b1_w15 : w15.cell? ⟨w6.heap.size, 1, none⟩ = some (.int .i64 1) := below_cell_of hb_w15 (by first | (go_simp; done) | (refine below_cell_of (w := w14) ?_ (by first | assumption | (go_simp; done)); (repeat (first | assumption | exact Below.refl _ _ | refine below_set ?_ (by first | omega | (simp; done) | (simp; omega)) _ | refine below_drawn ?_ | refine below_drawnN ?_ _ | refine below_new ?_ _))))
  have c0_w15 : w15.cell? ⟨w9.heap.size, 0, none⟩ = some (.int .i64 (-3)) := below_cell_of hb_w15 (by first | (go_simp; done) | (refine below_cell_of (w := w14) ?_ (by first | assumption | (go_simp; done)); (repeat (first | assumption | exact Below.refl _ _ | refine below_set ?_ (by first | omega | (simp; done) | (simp; omega)) _ | refine below_drawn ?_ | refine below_drawnN ?_ _ | refine below_new ?_ _))))
  have c1_w15 : w15.cell? ⟨w9.heap.size, 1, none⟩ = some (.int .i64 2) := below_cell_of hb_w15 (by first | (go_simp; done) | (refine below_cell_of (w := w14) ?_ (by first | assumption | (go_simp; done)); (repeat (first | assumption | exact Below.refl _ _ | refine below_set ?_ (by first | omega | (simp; done) | (simp; omega)) _ | refine below_drawn ?_ | refine below_drawnN ?_ _ | refine below_new ?_ _))))
  go_wp2_with fail
  refine (new_any 6 (-4) _).mono ?_
  rw [x6]
  rintro e w16 ⟨rfl, hb_w16⟩
  have hB_w16 : Below w.heap.size w w16 := below_on (by first | ((repeat (first | assumption | exact Below.refl _ _ | refine below_set ?_ (by first | omega | (simp; done) | (simp; omega)) _ | refine below_drawn ?_ | refine below_drawnN ?_ _ | refine below_new ?_ _)); done) | (refine below_on hB_w15 ?_; (repeat (first | assumption | exact Below.refl _ _ | refine below_set ?_ (by first | omega | (simp; done) | (simp; omega)) _ | refine below_drawn ?_ | refine below_drawnN ?_ _ | refine below_new ?_ _)))) hb_w16
  have hz_w16 := hb_w16.size
  try simp only [World.size_setCell] at hz_w16
  try simp only [World.size_drew] at hz_w16
  try simp only [World.size_drewN] at hz_w16
  try simp only [World.size_alloc] at hz_w16
  try simp only [World.size_setCell] at hz_w16
  try simp only [World.size_drew] at hz_w16
  try simp only [World.size_drewN] at hz_w16
  try simp only [World.size_alloc] at hz_w16
  have hl0_w16 : w3.heap.size < w16.heap.size := by omega
  have hl1_w16 : w6.heap.size < w16.heap.size := by omega
  have hl2_w16 : w9.heap.size < w16.heap.size := by omega
  have a0_w16 : w16.cell? ⟨w3.heap.size, 0, none⟩ = some (.int .i64 4) := below_cell_of hb_w16 (by first | (go_simp; done) | (refine below_cell_of (w := w15) ?_ (by first | assumption | (go_simp; done)); (repeat (first | assumption | exact Below.refl _ _ | refine below_set ?_ (by first | omega | (simp; done) | (simp; omega)) _ | refine below_drawn ?_ | refine below_drawnN ?_ _ | refine below_new ?_ _))))
  have a1_w16 : w16.cell? ⟨w3.heap.size, 1, none⟩ = some (.int .i64 15) := below_cell_of hb_w16 (by first | (go_simp; done) | (refine below_cell_of (w := w15) ?_ (by first | assumption | (go_simp; done)); (repeat (first | assumption | exact Below.refl _ _ | refine below_set ?_ (by first | omega | (simp; done) | (simp; omega)) _ | refine below_drawn ?_ | refine below_drawnN ?_ _ | refine below_new ?_ _))))
  have b0_w16 : w16.cell? ⟨w6.heap.size, 0, none⟩ = some (.int .i64 0) := below_cell_of hb_w16 (by first | (go_simp; done) | (refine below_cell_of (w := w15) ?_ (by first | assumption | (go_simp; done)); (repeat (first | assumption | exact Below.refl _ _ | refine below_set ?_ (by first | omega | (simp; done) | (simp; omega)) _ | refine below_drawn ?_ | refine below_drawnN ?_ _ | refine below_new ?_ _))))
  have b1_w16 : w16.cell? ⟨w6.heap.size, 1, none⟩ = some (.int .i64 1) := below_cell_of hb_w16 (by first | (go_simp; done) | (refine below_cell_of (w := w15) ?_ (by first | assumption | (go_simp; done)); (repeat (first | assumption | exact Below.refl _ _ | refine below_set ?_ (by first | omega | (simp; done) | (simp; omega)) _ | refine below_drawn ?_ | refine below_drawnN ?_ _ | refine below_new ?_ _))))
  have c0_w16 : w16.cell? ⟨w9.heap.size, 0, none⟩ = some (.int .i64 (-3)) := below_cell_of hb_w16 (by first | (go_simp; done) | (refine below_cell_of (w := w15) ?_ (by first | assumption | (go_simp; done)); (repeat (first | assumption | exact Below.refl _ _ | refine below_set ?_ (by first | omega | (simp; done) | (simp; omega)) _ | refine below_drawn ?_ | refine below_drawnN ?_ _ | refine below_new ?_ _))))
  have c1_w16 : w16.cell? ⟨w9.heap.size, 1, none⟩ = some (.int .i64 2) := below_cell_of hb_w16 (by first | (go_simp; done) | (refine below_cell_of (w := w15) ?_ (by first | assumption | (go_simp; done)); (repeat (first | assumption | exact Below.refl _ _ | refine below_set ?_ (by first | omega | (simp; done) | (simp; omega)) _ | refine below_drawn ?_ | refine below_drawnN ?_ _ | refine below_new ?_ _))))
  go_wp2_with fail
  refine (new_any 6 0 _).mono ?_
  rw [x7]
  rintro e w17 ⟨rfl, hb_w17⟩
  have hB_w17 : Below w.heap.size w w17 := below_on (by first | ((repeat (first | assumption | exact Below.refl _ _ | refine below_set ?_ (by first | omega | (simp; done) | (simp; omega)) _ | refine below_drawn ?_ | refine below_drawnN ?_ _ | refine below_new ?_ _)); done) | (refine below_on hB_w16 ?_; (repeat (first | assumption | exact Below.refl _ _ | refine below_set ?_ (by first | omega | (simp; done) | (simp; omega)) _ | refine below_drawn ?_ | refine below_drawnN ?_ _ | refine below_new ?_ _)))) hb_w17
  have hz_w17 := hb_w17.size
  try simp only [World.size_setCell] at hz_w17
  try simp only [World.size_drew] at hz_w17
  try simp only [World.size_drewN] at hz_w17
  try simp only [World.size_alloc] at hz_w17
  try simp only [World.size_setCell] at hz_w17
  try simp only [World.size_drew] at hz_w17
  try simp only [World.size_drewN] at hz_w17
  try simp only [World.size_alloc] at hz_w17
  have hl0_w17 : w3.heap.size < w17.heap.size := by omega
  have hl1_w17 : w6.heap.size < w17.heap.size := by omega
  have hl2_w17 : w9.heap.size < w17.heap.size := by omega
  have hl3_w17 : w16.heap.size < w17.heap.size := by omega
  have a0_w17 : w17.cell? ⟨w3.heap.size, 0, none⟩ = some (.int .i64 4) := below_cell_of hb_w17 (by first | (go_simp; done) | (refine below_cell_of (w := w16) ?_ (by first | assumption | (go_simp; done)); (repeat (first | assumption | exact Below.refl _ _ | refine below_set ?_ (by first | omega | (simp; done) | (simp; omega)) _ | refine below_drawn ?_ | refine below_drawnN ?_ _ | refine below_new ?_ _))))
  have a1_w17 : w17.cell? ⟨w3.heap.size, 1, none⟩ = some (.int .i64 15) := below_cell_of hb_w17 (by first | (go_simp; done) | (refine below_cell_of (w := w16) ?_ (by first | assumption | (go_simp; done)); (repeat (first | assumption | exact Below.refl _ _ | refine below_set ?_ (by first | omega | (simp; done) | (simp; omega)) _ | refine below_drawn ?_ | refine below_drawnN ?_ _ | refine below_new ?_ _))))
  have b0_w17 : w17.cell? ⟨w6.heap.size, 0, none⟩ = some (.int .i64 0) := below_cell_of hb_w17 (by first | (go_simp; done) | (refine below_cell_of (w := w16) ?_ (by first | assumption | (go_simp; done)); (repeat (first | assumption | exact Below.refl _ _ | refine below_set ?_ (by first | omega | (simp; done) | (simp; omega)) _ | refine below_drawn ?_ | refine below_drawnN ?_ _ | refine below_new ?_ _))))
  have b1_w17 : w17.cell? ⟨w6.heap.size, 1, none⟩ = some (.int .i64 1) := below_cell_of hb_w17 (by first | (go_simp; done) | (refine below_cell_of (w := w16) ?_ (by first | assumption | (go_simp; done)); (repeat (first | assumption | exact Below.refl _ _ | refine below_set ?_ (by first | omega | (simp; done) | (simp; omega)) _ | refine below_drawn ?_ | refine below_drawnN ?_ _ | refine below_new ?_ _))))
  have c0_w17 : w17.cell? ⟨w9.heap.size, 0, none⟩ = some (.int .i64 (-3)) := below_cell_of hb_w17 (by first | (go_simp; done) | (refine below_cell_of (w := w16) ?_ (by first | assumption | (go_simp; done)); (repeat (first | assumption | exact Below.refl _ _ | refine below_set ?_ (by first | omega | (simp; done) | (simp; omega)) _ | refine below_drawn ?_ | refine below_drawnN ?_ _ | refine below_new ?_ _))))
  have c1_w17 : w17.cell? ⟨w9.heap.size, 1, none⟩ = some (.int .i64 2) := below_cell_of hb_w17 (by first | (go_simp; done) | (refine below_cell_of (w := w16) ?_ (by first | assumption | (go_simp; done)); (repeat (first | assumption | exact Below.refl _ _ | refine below_set ?_ (by first | omega | (simp; done) | (simp; omega)) _ | refine below_drawn ?_ | refine below_drawnN ?_ _ | refine below_new ?_ _))))
  have d0_w17 : w17.cell? ⟨w16.heap.size, 0, none⟩ = some (.int .i64 (-3)) := below_cell_of hb_w17 (by first | (go_simp; done) | (refine below_cell_of (w := w16) ?_ (by first | assumption | (go_simp; done)); (repeat (first | assumption | exact Below.refl _ _ | refine below_set ?_ (by first | omega | (simp; done) | (simp; omega)) _ | refine below_drawn ?_ | refine below_drawnN ?_ _ | refine below_new ?_ _))))
  have d1_w17 : w17.cell? ⟨w16.heap.size, 1, none⟩ = some (.int .i64 2) := below_cell_of hb_w17 (by first | (go_simp; done) | (refine below_cell_of (w := w16) ?_ (by first | assumption | (go_simp; done)); (repeat (first | assumption | exact Below.refl _ _ | refine below_set ?_ (by first | omega | (simp; done) | (simp; omega)) _ | refine below_drawn ?_ | refine below_drawnN ?_ _ | refine below_new ?_ _))))
  go_wp2_with fail
  refine (lof_any 1 3 _).mono ?_
  rintro e w18 ⟨rfl, hb_w18⟩
  have hB_w18 : Below w.heap.size w w18 := below_on (by first | ((repeat (first | assumption | exact Below.refl _ _ | refine below_set ?_ (by first | omega | (simp; done) | (simp; omega)) _ | refine below_drawn ?_ | refine below_drawnN ?_ _ | refine below_new ?_ _)); done) | (refine below_on hB_w17 ?_; (repeat (first | assumption | exact Below.refl _ _ | refine below_set ?_ (by first | omega | (simp; done) | (simp; omega)) _ | refine below_drawn ?_ | refine below_drawnN ?_ _ | refine below_new ?_ _)))) hb_w18
  have hz_w18 := hb_w18.size
  try simp only [World.size_setCell] at hz_w18
  try simp only [World.size_drew] at hz_w18
  try simp only [World.size_drewN] at hz_w18
  try simp only [World.size_alloc] at hz_w18
  try simp only [World.size_setCell] at hz_w18
  try simp only [World.size_drew] at hz_w18
  try simp only [World.size_drewN] at hz_w18
  try simp only [World.size_alloc] at hz_w18
  have hl0_w18 : w3.heap.size < w18.heap.size := by omega
  have hl1_w18 : w6.heap.size < w18.heap.size := by omega
  have hl2_w18 : w9.heap.size < w18.heap.size := by omega
  have hl3_w18 : w16.heap.size < w18.heap.size := by omega
  have a0_w18 : w18.cell? ⟨w3.heap.size, 0, none⟩ = some (.int .i64 4) := below_cell_of hb_w18 (by first | (go_simp; done) | (refine below_cell_of (w := w17) ?_ (by first | assumption | (go_simp; done)); (repeat (first | assumption | exact Below.refl _ _ | refine below_set ?_ (by first | omega | (simp; done) | (simp; omega)) _ | refine below_drawn ?_ | refine below_drawnN ?_ _ | refine below_new ?_ _))))
  have a1_w18 : w18.cell? ⟨w3.heap.size, 1, none⟩ = some (.int .i64 15) := below_cell_of hb_w18 (by first | (go_simp; done) | (refine below_cell_of (w := w17) ?_ (by first | assumption | (go_simp; done)); (repeat (first | assumption | exact Below.refl _ _ | refine below_set ?_ (by first | omega | (simp; done) | (simp; omega)) _ | refine below_drawn ?_ | refine below_drawnN ?_ _ | refine below_new ?_ _))))
  have b0_w18 : w18.cell? ⟨w6.heap.size, 0, none⟩ = some (.int .i64 0) := below_cell_of hb_w18 (by first | (go_simp; done) | (refine below_cell_of (w := w17) ?_ (by first | assumption | (go_simp; done)); (repeat (first | assumption | exact Below.refl _ _ | refine below_set ?_ (by first | omega | (simp; done) | (simp; omega)) _ | refine below_drawn ?_ | refine below_drawnN ?_ _ | refine below_new ?_ _))))
  have b1_w18 : w18.cell? ⟨w6.heap.size, 1, none⟩ = some (.int .i64 1) := below_cell_of hb_w18 (by first | (go_simp; done) | (refine below_cell_of (w := w17) ?_ (by first | assumption | (go_simp; done)); (repeat (first | assumption | exact Below.refl _ _ | refine below_set ?_ (by first | omega | (simp; done) | (simp; omega)) _ | refine below_drawn ?_ | refine below_drawnN ?_ _ | refine below_new ?_ _))))
  have c0_w18 : w18.cell? ⟨w9.heap.size, 0, none⟩ = some (.int .i64 (-3)) := below_cell_of hb_w18 (by first | (go_simp; done) | (refine below_cell_of (w := w17) ?_ (by first | assumption | (go_simp; done)); (repeat (first | assumption | exact Below.refl _ _ | refine below_set ?_ (by first | omega | (simp; done) | (simp; omega)) _ | refine below_drawn ?_ | refine below_drawnN ?_ _ | refine below_new ?_ _))))
  have c1_w18 : w18.cell? ⟨w9.heap.size, 1, none⟩ = some (.int .i64 2) := below_cell_of hb_w18 (by first | (go_simp; done) | (refine below_cell_of (w := w17) ?_ (by first | assumption | (go_simp; done)); (repeat (first | assumption | exact Below.refl _ _ | refine below_set ?_ (by first | omega | (simp; done) | (simp; omega)) _ | refine below_drawn ?_ | refine below_drawnN ?_ _ | refine below_new ?_ _))))
  have d0_w18 : w18.cell? ⟨w16.heap.size, 0, none⟩ = some (.int .i64 (-3)) := below_cell_of hb_w18 (by first | (go_simp; done) | (refine below_cell_of (w := w17) ?_ (by first | assumption | (go_simp; done)); (repeat (first | assumption | exact Below.refl _ _ | refine below_set ?_ (by first | omega | (simp; done) | (simp; omega)) _ | refine below_drawn ?_ | refine below_drawnN ?_ _ | refine below_new ?_ _))))
  have d1_w18 : w18.cell? ⟨w16.heap.size, 1, none⟩ = some (.int .i64 2) := below_cell_of hb_w18 (by first | (go_simp; done) | (refine below_cell_of (w := w17) ?_ (by first | assumption | (go_simp; done)); (repeat (first | assumption | exact Below.refl _ _ | refine below_set ?_ (by first | omega | (simp; done) | (simp; omega)) _ | refine below_drawn ?_ | refine below_drawnN ?_ _ | refine below_new ?_ _))))
  go_wp2_with fail
  refine (lof_any 1 4 _).mono ?_
  rintro e w19 ⟨rfl, hb_w19⟩
  have hB_w19 : Below w.heap.size w w19 := below_on (by first | ((repeat (first | assumption | exact Below.refl _ _ | refine below_set ?_ (by first | omega | (simp; done) | (simp; omega)) _ | refine below_drawn ?_ | refine below_drawnN ?_ _ | refine below_new ?_ _)); done) | (refine below_on hB_w18 ?_; (repeat (first | assumption | exact Below.refl _ _ | refine below_set ?_ (by first | omega | (simp; done) | (simp; omega)) _ | refine below_drawn ?_ | refine below_drawnN ?_ _ | refine below_new ?_ _)))) hb_w19
  have hz_w19 := hb_w19.size
  try simp only [World.size_setCell] at hz_w19
  try simp only [World.size_drew] at hz_w19
  try simp only [World.size_drewN] at hz_w19
  try simp only [World.size_alloc] at hz_w19
  try simp only [World.size_setCell] at hz_w19
  try simp only [World.size_drew] at hz_w19
  try simp only [World.size_drewN] at hz_w19
  try simp only [World.size_alloc] at hz_w19
  have hl0_w19 : w3.heap.size < w19.heap.size := by omega
  have hl1_w19 : w6.heap.size < w19.heap.size := by omega
  have hl2_w19 : w9.heap.size < w19.heap.size := by omega
  have hl3_w19 : w16.heap.size < w19.heap.size := by omega
  have a0_w19 : w19.cell? ⟨w3.heap.size, 0, none⟩ = some (.int .i64 4) := below_cell_of hb_w19 (by first | (go_simp; done) | (refine below_cell_of (w := w18) ?_ (by first | assumption | (go_simp; done)); (repeat (first | assumption | exact Below.refl _ _ | refine below_set ?_ (by first | omega | (simp; done) | (simp; omega)) _ | refine below_drawn ?_ | refine below_drawnN ?_ _ | refine below_new ?_ _))))
  have a1_w19 : w19.cell? ⟨w3.heap.size, 1, none⟩ = some (.int .i64 15) := below_cell_of hb_w19 (by first | (go_simp; done) | (refine below_cell_of (w := w18) ?_ (by first | assumption | (go_simp; done)); (repeat (first | assumption | exact Below.refl _ _ | refine below_set ?_ (by first | omega | (simp; done) | (simp; omega)) _ | refine below_drawn ?_ | refine below_drawnN ?_ _ | refine below_new ?_ _))))
  have b0_w19 : w19.cell? ⟨w6.heap.size, 0, none⟩ = some (.int .i64 0) := below_cell_of hb_w19 (by first | (go_simp; done) | (refine below_cell_of (w := w18) ?_ (by first | assumption | (go_simp; done)); (repeat (first | assumption | exact Below.refl _ _ | refine below_set ?_ (by first | omega | (simp; done) | (simp; omega)) _ | refine below_drawn ?_ | refine below_drawnN ?_ _ | refine below_new ?_ _))))
  have b1_w19 : w19.cell? ⟨w6.heap.size, 1, none⟩ = some (.int .i64 1) := below_cell_of hb_w19 (by first | (go_simp; done) | (refine below_cell_of (w := w18) ?_ (by first | assumption | (go_simp; done)); (repeat (first | assumption | exact Below.refl _ _ | refine below_set ?_ (by first | omega | (simp; done) | (simp; omega)) _ | refine below_drawn ?_ | refine below_drawnN ?_ _ | refine below_new ?_ _))))
  have c0_w19 : w19.cell? ⟨w9.heap.size, 0, none⟩ = some (.int .i64 (-3)) := below_cell_of hb_w19 (by first | (go_simp; done) | (refine below_cell_of (w := w18) ?_ (by first | assumption | (go_simp; done)); (repeat (first | assumption | exact Below.refl _ _ | refine below_set ?_ (by first | omega | (simp; done) | (simp; omega)) _ | refine below_drawn ?_ | refine below_drawnN ?_ _ | refine below_new ?_ _))))
  have c1_w19 : w19.cell? ⟨w9.heap.size, 1, none⟩ = some (.int .i64 2) := below_cell_of hb_w19 (by first | (go_simp; done) | (refine below_cell_of (w := w18) ?_ (by first | assumption | (go_simp; done)); (repeat (first | assumption | exact Below.refl _ _ | refine below_set ?_ (by first | omega | (simp; done) | (simp; omega)) _ | refine below_drawn ?_ | refine below_drawnN ?_ _ | refine below_new ?_ _))))
  have d0_w19 : w19.cell? ⟨w16.heap.size, 0, none⟩ = some (.int .i64 (-3)) := below_cell_of hb_w19 (by first | (go_simp; done) | (refine below_cell_of (w := w18) ?_ (by first | assumption | (go_simp; done)); (repeat (first | assumption | exact Below.refl _ _ | refine below_set ?_ (by first | omega | (simp; done) | (simp; omega)) _ | refine below_drawn ?_ | refine below_drawnN ?_ _ | refine below_new ?_ _))))
  have d1_w19 : w19.cell? ⟨w16.heap.size, 1, none⟩ = some (.int .i64 2) := below_cell_of hb_w19 (by first | (go_simp; done) | (refine below_cell_of (w := w18) ?_ (by first | assumption | (go_simp; done)); (repeat (first | assumption | exact Below.refl _ _ | refine below_set ?_ (by first | omega | (simp; done) | (simp; omega)) _ | refine below_drawn ?_ | refine below_drawnN ?_ _ | refine below_new ?_ _))))
  go_wp2_with fail
  refine (cmp_any 1 3 1 4 _ (by decide) (by decide)).mono ?_
  rw [x8]
  rintro e w20 ⟨rfl, hb_w20⟩
  have hB_w20 : Below w.heap.size w w20 := below_on (by first | ((repeat (first | assumption | exact Below.refl _ _ | refine below_set ?_ (by first | omega | (simp; done) | (simp; omega)) _ | refine below_drawn ?_ | refine below_drawnN ?_ _ | refine below_new ?_ _)); done) | (refine below_on hB_w19 ?_; (repeat (first | assumption | exact Below.refl _ _ | refine below_set ?_ (by first | omega | (simp; done) | (simp; omega)) _ | refine below_drawn ?_ | refine below_drawnN ?_ _ | refine below_new ?_ _)))) hb_w20
  have hz_w20 := hb_w20.size
  try simp only [World.size_setCell] at hz_w20
  try simp only [World.size_drew] at hz_w20
  try simp only [World.size_drewN] at hz_w20
  try simp only [World.size_alloc] at hz_w20
  try simp only [World.size_setCell] at hz_w20
  try simp only [World.size_drew] at hz_w20
  try simp only [World.size_drewN] at hz_w20
  try simp only [World.size_alloc] at hz_w20
  have hl0_w20 : w3.heap.size < w20.heap.size := by omega
  have hl1_w20 : w6.heap.size < w20.heap.size := by omega
  have hl2_w20 : w9.heap.size < w20.heap.size := by omega
  have hl3_w20 : w16.heap.size < w20.heap.size := by omega
  have a0_w20 : w20.cell? ⟨w3.heap.size, 0, none⟩ = some (.int .i64 4) := below_cell_of hb_w20 (by first | (go_simp; done) | (refine below_cell_of (w := w19) ?_ (by first | assumption | (go_simp; done)); (repeat (first | assumption | exact Below.refl _ _ | refine below_set ?_ (by first | omega | (simp; done) | (simp; omega)) _ | refine below_drawn ?_ | refine below_drawnN ?_ _ | refine below_new ?_ _))))
  have a1_w20 : w20.cell? ⟨w3.heap.size, 1, none⟩ = some (.int .i64 15) := below_cell_of hb_w20 (by first | (go_simp; done) | (refine below_cell_of (w := w19) ?_ (by first | assumption | (go_simp; done)); (repeat (first | assumption | exact Below.refl _ _ | refine below_set ?_ (by first | omega | (simp; done) | (simp; omega)) _ | refine below_drawn ?_ | refine below_drawnN ?_ _ | refine below_new ?_ _))))
  have b0_w20 : w20.cell? ⟨w6.heap.size, 0, none⟩ = some (.int .i64 0) := below_cell_of hb_w20 (by first | (go_simp; done) | (refine below_cell_of (w := w19) ?_ (by first | assumption | (go_simp; done)); (repeat (first | assumption | exact Below.refl _ _ | refine below_set ?_ (by first | omega | (simp; done) | (simp; omega)) _ | refine below_drawn ?_ | refine below_drawnN ?_ _ | refine below_new ?_ _))))
  have b1_w20 : w20.cell? ⟨w6.heap.size, 1, none⟩ = some (.int .i64 1) := below_cell_of hb_w20 (by first | (go_simp; done) | (refine below_cell_of (w := w19) ?_ (by first | assumption | (go_simp; done)); (repeat (first | assumption | exact Below.refl _ _ | refine below_set ?_ (by first | omega | (simp; done) | (simp; omega)) _ | refine below_drawn ?_ | refine below_drawnN ?_ _ | refine below_new ?_ _))))
  have c0_w20 : w20.cell? ⟨w9.heap.size, 0, none⟩ = some (.int .i64 (-3)) := below_cell_of hb_w20 (by first | (go_simp; done) | (refine below_cell_of (w := w19) ?_ (by first | assumption | (go_simp; done)); (repeat (first | assumption | exact Below.refl _ _ | refine below_set ?_ (by first | omega | (simp; done) | (simp; omega)) _ | refine below_drawn ?_ | refine below_drawnN ?_ _ | refine below_new ?_ _))))
  have c1_w20 : w20.cell? ⟨w9.heap.size, 1, none⟩ = some (.int .i64 2) := below_cell_of hb_w20 (by first | (go_simp; done) | (refine below_cell_of (w := w19) ?_ (by first | assumption | (go_simp; done)); (repeat (first | assumption | exact Below.refl _ _ | refine below_set ?_ (by first | omega | (simp; done) | (simp; omega)) _ | refine below_drawn ?_ | refine below_drawnN ?_ _ | refine below_new ?_ _))))
  have d0_w20 : w20.cell? ⟨w16.heap.size, 0, none⟩ = some (.int .i64 (-3)) := below_cell_of hb_w20 (by first | (go_simp; done) | (refine below_cell_of (w := w19) ?_ (by first | assumption | (go_simp; done)); (repeat (first | assumption | exact Below.refl _ _ | refine below_set ?_ (by first | omega | (simp; done) | (simp; omega)) _ | refine below_drawn ?_ | refine below_drawnN ?_ _ | refine below_new ?_ _))))
  have d1_w20 : w20.cell? ⟨w16.heap.size, 1, none⟩ = some (.int .i64 2) := below_cell_of hb_w20 (by first | (go_simp; done) | (refine below_cell_of (w := w19) ?_ (by first | assumption | (go_simp; done)); (repeat (first | assumption | exact Below.refl _ _ | refine below_set ?_ (by first | omega | (simp; done) | (simp; omega)) _ | refine below_drawn ?_ | refine below_drawnN ?_ _ | refine below_new ?_ _))))
  go_wp2_with fail
  refine (lof_any 2 4 _).mono ?_
  rintro e w21 ⟨rfl, hb_w21⟩
  have hB_w21 : Below w.heap.size w w21 := below_on (by first | ((repeat (first | assumption | exact Below.refl _ _ | refine below_set ?_ (by first | omega | (simp; done) | (simp; omega)) _ | refine below_drawn ?_ | refine below_drawnN ?_ _ | refine below_new ?_ _)); done) | (refine below_on hB_w20 ?_; (repeat (first | assumption | exact Below.refl _ _ | refine below_set ?_ (by first | omega | (simp; done) | (simp; omega)) _ | refine below_drawn ?_ | refine below_drawnN ?_ _ | refine below_new ?_ _)))) hb_w21
  have hz_w21 := hb_w21.size
  try simp only [World.size_setCell] at hz_w21
  try simp only [World.size_drew] at hz_w21
  try simp only [World.size_drewN] at hz_w21
  try simp only [World.size_alloc] at hz_w21
  try simp only [World.size_setCell] at hz_w21
  try simp only [World.size_drew] at hz_w21
  try simp only [World.size_drewN] at hz_w21
  try simp only [World.size_alloc] at hz_w21
  have hl0_w21 : w3.heap.size < w21.heap.size := by omega
  have hl1_w21 : w6.heap.size < w21.heap.size := by omega
  have hl2_w21 : w9.heap.size < w21.heap.size := by omega
  have hl3_w21 : w16.heap.size < w21.heap.size := by omega
  have a0_w21 : w21.cell? ⟨w3.heap.size, 0, none⟩ = some (.int .i64 4) := below_cell_of hb_w21 (by first | (go_simp; done) | (refine below_cell_of (w := w20) ?_ (by first | assumption | (go_simp; done)); (repeat (first | assumption | exact Below.refl _ _ | refine below_set ?_ (by first | omega | (simp; done) | (simp; omega)) _ | refine below_drawn ?_ | refine below_drawnN ?_ _ | refine below_new ?_ _))))
  have a1_w21 : w21.cell? ⟨w3.heap.size, 1, none⟩ = some (.int .i64 15) := below_cell_of hb_w21 (by first | (go_simp; done) | (refine below_cell_of (w := w20) ?_ (by first | assumption | (go_simp; done)); (repeat (first | assumption | exact Below.refl _ _ | refine below_set ?_ (by first | omega | (simp; done) | (simp; omega)) _ | refine below_drawn ?_ | refine below_drawnN ?_ _ | refine below_new ?_ _))))
  have b0_w21 : w21.cell? ⟨w6.heap.size, 0, none⟩ = some (.int .i64 0) := below_cell_of hb_w21 (by first | (go_simp; done) | (refine below_cell_of (w := w20) ?_ (by first | assumption | (go_simp; done)); (repeat (first | assumption | exact Below.refl _ _ | refine below_set ?_ (by first | omega | (simp; done) | (simp; omega)) _ | refine below_drawn ?_ | refine below_drawnN ?_ _ | refine below_new ?_ _))))
  have b1_w21 : w21.cell? ⟨w6.heap.size, 1, none⟩ = some (.int .i64 1) := below_cell_of hb_w21 (by first | (go_simp; done) | (refine below_cell_of (w := w20) ?_ (by first | assumption | (go_simp; done)); (repeat (first | assumption | exact Below.refl _ _ | refine below_set ?_ (by first | omega | (simp; done) | (simp; omega)) _ | refine below_drawn ?_ | refine below_drawnN ?_ _ | refine below_new ?_ _))))
  have c0_w21 : w21.cell? ⟨w9.heap.size, 0, none⟩ = some (.int .i64 (-3)) := below_cell_of hb_w21 (by first | (go_simp; done) | (refine below_cell_of (w := w20) ?_ (by first | assumption | (go_simp; done)); (repeat (first | assumption | exact Below.refl _ _ | refine below_set ?_ (by first | omega | (simp; done) | (simp; omega)) _ | refine below_drawn ?_ | refine below_drawnN ?_ _ | refine below_new ?_ _))))
  have c1_w21 : w21.cell? ⟨w9.heap.size, 1, none⟩ = some (.int .i64 2) := below_cell_of hb_w21 (by first | (go_simp; done) | (refine below_cell_of (w := w20) ?_ (by first | assumption | (go_simp; done)); (repeat (first | assumption | exact Below.refl _ _ | refine below_set ?_ (by first | omega | (simp; done) | (simp; omega)) _ | refine below_drawn ?_ | refine below_drawnN ?_ _ | refine below_new ?_ _))))
  have d0_w21 : w21.cell? ⟨w16.heap.size, 0, none⟩ = some (.int .i64 (-3)) := below_cell_of hb_w21 (by first | (go_simp; done) | (refine below_cell_of (w := w20) ?_ (by first | assumption | (go_simp; done)); (repeat (first | assumption | exact Below.refl _ _ | refine below_set ?_ (by first | omega | (simp; done) | (simp; omega)) _ | refine below_drawn ?_ | refine below_drawnN ?_ _ | refine below_new ?_ _))))
  have d1_w21 : w21.cell? ⟨w16.heap.size, 1, none⟩ = some (.int .i64 2) := below_cell_of hb_w21 (by first | (go_simp; done) | (refine below_cell_of (w := w20) ?_ (by first | assumption | (go_simp; done)); (repeat (first | assumption | exact Below.refl _ _ | refine below_set ?_ (by first | omega | (simp; done) | (simp; omega)) _ | refine below_drawn ?_ | refine below_drawnN ?_ _ | refine below_new ?_ _))))
  go_wp2_with fail
  refine (lof_any 0 1 _).mono ?_
  rintro e w22 ⟨rfl, hb_w22⟩
  have hB_w22 : Below w.heap.size w w22 := below_on (by first | ((repeat (first | assumption | exact Below.refl _ _ | refine below_set ?_ (by first | omega | (simp; done) | (simp; omega)) _ | refine below_drawn ?_ | refine below_drawnN ?_ _ | refine below_new ?_ _)); done) | (refine below_on hB_w21 ?_; (repeat (first | assumption | exact Below.refl _ _ | refine below_set ?_ (by first | omega | (simp; done) | (simp; omega)) _ | refine below_drawn ?_ | refine below_drawnN ?_ _ | refine below_new ?_ _)))) hb_w22
  have hz_w22 := hb_w22.size
  try simp only [World.size_setCell] at hz_w22
  try simp only [World.size_drew] at hz_w22
  try simp only [World.size_drewN] at hz_w22
  try simp only [World.size_alloc] at hz_w22
  try simp only [World.size_setCell] at hz_w22
  try simp only [World.size_drew] at hz_w22
  try simp only [World.size_drewN] at hz_w22
  try simp only [World.size_alloc] at hz_w22
  have hl0_w22 : w3.heap.size < w22.heap.size := by omega
  have hl1_w22 : w6.heap.size < w22.heap.size := by omega
  have hl2_w22 : w9.heap.size < w22.heap.size := by omega
  have hl3_w22 : w16.heap.size < w22.heap.size := by omega
  have a0_w22 : w22.cell? ⟨w3.heap.size, 0, none⟩ = some (.int .i64 4) := below_cell_of hb_w22 (by first | (go_simp; done) | (refine below_cell_of (w := w21) ?_ (by first | assumption | (go_simp; done)); (repeat (first | assumption | exact Below.refl _ _ | refine below_set ?_ (by first | omega | (simp; done) | (simp; omega)) _ | refine below_drawn ?_ | refine below_drawnN ?_ _ | refine below_new ?_ _))))
  have a1_w22 : w22.cell? ⟨w3.heap.size, 1, none⟩ = some (.int .i64 15) := below_cell_of hb_w22 (by first | (go_simp; done) | (refine below_cell_of (w := w21) ?_ (by first | assumption | (go_simp; done)); (repeat (first | assumption | exact Below.refl _ _ | refine below_set ?_ (by first | omega | (simp; done) | (simp; omega)) _ | refine below_drawn ?_ | refine below_drawnN ?_ _ | refine below_new ?_ _))))
  have b0_w22 : w22.cell? ⟨w6.heap.size, 0, none⟩ = some (.int .i64 0) := below_cell_of hb_w22 (by first | (go_simp; done) | (refine below_cell_of (w := w21) ?_ (by first | assumption | (go_simp; done)); (repeat (first | assumption | exact Below.refl _ _ | refine below_set ?_ (by first | omega | (simp; done) | (simp; omega)) _ | refine below_drawn ?_ | refine below_drawnN ?_ _ | refine below_new ?_ _))))
  have b1_w22 : w22.cell? ⟨w6.heap.size, 1, none⟩ = some (.int .i64 1) := below_cell_of hb_w22 (by first | (go_simp; done) | (refine below_cell_of (w := w21) ?_ (by first | assumption | (go_simp; done)); (repeat (first | assumption | exact Below.refl _ _ | refine below_set ?_ (by first | omega | (simp; done) | (simp; omega)) _ | refine below_drawn ?_ | refine below_drawnN ?_ _ | refine below_new ?_ _))))
  have c0_w22 : w22.cell? ⟨w9.heap.size, 0, none⟩ = some (.int .i64 (-3)) := below_cell_of hb_w22 (by first | (go_simp; done) | (refine below_cell_of (w := w21) ?_ (by first | assumption | (go_simp; done)); (repeat (first | assumption | exact Below.refl _ _ | refine below_set ?_ (by first | omega | (simp; done) | (simp; omega)) _ | refine below_drawn ?_ | refine below_drawnN ?_ _ | refine below_new ?_ _))))
  have c1_w22 : w22.cell? ⟨w9.heap.size, 1, none⟩ = some (.int .i64 2) := below_cell_of hb_w22 (by first | (go_simp; done) | (refine below_cell_of (w := w21) ?_ (by first | assumption | (go_simp; done)); (repeat (first | assumption | exact Below.refl _ _ | refine below_set ?_ (by first | omega | (simp; done) | (simp; omega)) _ | refine below_drawn ?_ | refine below_drawnN ?_ _ | refine below_new ?_ _))))
  have d0_w22 : w22.cell? ⟨w16.heap.size, 0, none⟩ = some (.int .i64 (-3)) := below_cell_of hb_w22 (by first | (go_simp; done) | (refine below_cell_of (w := w21) ?_ (by first | assumption | (go_simp; done)); (repeat (first | assumption | exact Below.refl _ _ | refine below_set ?_ (by first | omega | (simp; done) | (simp; omega)) _ | refine below_drawn ?_ | refine below_drawnN ?_ _ | refine below_new ?_ _))))
  have d1_w22 : w22.cell? ⟨w16.heap.size, 1, none⟩ = some (.int .i64 2) := below_cell_of hb_w22 (by first | (go_simp; done) | (refine below_cell_of (w := w21) ?_ (by first | assumption | (go_simp; done)); (repeat (first | assumption | exact Below.refl _ _ | refine below_set ?_ (by first | omega | (simp; done) | (simp; omega)) _ | refine below_drawn ?_ | refine below_drawnN ?_ _ | refine below_new ?_ _))))
  go_wp2_with fail
  refine (add_any 2 4 0 1 _ (by decide) (by decide)).mono ?_
  rw [x9]
  rintro e w23 ⟨rfl, hb_w23⟩
  have hB_w23 : Below w.heap.size w w23 := below_on (by first | ((repeat (first | assumption | exact Below.refl _ _ | refine below_set ?_ (by first | omega | (simp; done) | (simp; omega)) _ | refine below_drawn ?_ | refine below_drawnN ?_ _ | refine below_new ?_ _)); done) | (refine below_on hB_w22 ?_; (repeat (first | assumption | exact Below.refl _ _ | refine below_set ?_ (by first | omega | (simp; done) | (simp; omega)) _ | refine below_drawn ?_ | refine below_drawnN ?_ _ | refine below_new ?_ _)))) hb_w23
  have hz_w23 := hb_w23.size
  try simp only [World.size_setCell] at hz_w23
  try simp only [World.size_drew] at hz_w23
  try simp only [World.size_drewN] at hz_w23
  try simp only [World.size_alloc] at hz_w23
  try simp only [World.size_setCell] at hz_w23
  try simp only [World.size_drew] at hz_w23
  try simp only [World.size_drewN] at hz_w23
  try simp only [World.size_alloc] at hz_w23
  have hl0_w23 : w3.heap.size < w23.heap.size := by omega
  have hl1_w23 : w6.heap.size < w23.heap.size := by omega
  have hl2_w23 : w9.heap.size < w23.heap.size := by omega
  have hl3_w23 : w16.heap.size < w23.heap.size := by omega
  have a0_w23 : w23.cell? ⟨w3.heap.size, 0, none⟩ = some (.int .i64 4) := below_cell_of hb_w23 (by first | (go_simp; done) | (refine below_cell_of (w := w22) ?_ (by first | assumption | (go_simp; done)); (repeat (first | assumption | exact Below.refl _ _ | refine below_set ?_ (by first | omega | (simp; done) | (simp; omega)) _ | refine below_drawn ?_ | refine below_drawnN ?_ _ | refine below_new ?_ _))))
  have a1_w23 : w23.cell? ⟨w3.heap.size, 1, none⟩ = some (.int .i64 15) := below_cell_of hb_w23 (by first | (go_simp; done) | (refine below_cell_of (w := w22) ?_ (by first | assumption | (go_simp; done)); (repeat (first | assumption | exact Below.refl _ _ | refine below_set ?_ (by first | omega | (simp; done) | (simp; omega)) _ | refine below_drawn ?_ | refine below_drawnN ?_ _ | refine below_new ?_ _))))
  have b0_w23 : w23.cell? ⟨w6.heap.size, 0, none⟩ = some (.int .i64 0) := below_cell_of hb_w23 (by first | (go_simp; done) | (refine below_cell_of (w := w22) ?_ (by first | assumption | (go_simp; done)); (repeat (first | assumption | exact Below.refl _ _ | refine below_set ?_ (by first | omega | (simp; done) | (simp; omega)) _ | refine below_drawn ?_ | refine below_drawnN ?_ _ | refine below_new ?_ _))))
  have b1_w23 : w23.cell? ⟨w6.heap.size, 1, none⟩ = some (.int .i64 1) := below_cell_of hb_w23 (by first | (go_simp; done) | (refine below_cell_of (w := w22) ?_ (by first | assumption | (go_simp; done)); (repeat (first | assumption | exact Below.refl _ _ | refine below_set ?_ (by first | omega | (simp; done) | (simp; omega)) _ | refine below_drawn ?_ | refine below_drawnN ?_ _ | refine below_new ?_ _))))
  have c0_w23 : w23.cell? ⟨w9.heap.size, 0, none⟩ = some (.int .i64 (-3)) := below_cell_of hb_w23 (by first | (go_simp; done) | (refine below_cell_of (w := w22) ?_ (by first | assumption | (go_simp; done)); (repeat (first | assumption | exact Below.refl _ _ | refine below_set ?_ (by first | omega | (simp; done) | (simp; omega)) _ | refine below_drawn ?_ | refine below_drawnN ?_ _ | refine below_new ?_ _))))
  have c1_w23 : w23.cell? ⟨w9.heap.size, 1, none⟩ = some (.int .i64 2) := below_cell_of hb_w23 (by first | (go_simp; done) | (refine below_cell_of (w := w22) ?_ (by first | assumption | (go_simp; done)); (repeat (first | assumption | exact Below.refl _ _ | refine below_set ?_ (by first | omega | (simp; done) | (simp; omega)) _ | refine below_drawn ?_ | refine below_drawnN ?_ _ | refine below_new ?_ _))))
  have d0_w23 : w23.cell? ⟨w16.heap.size, 0, none⟩ = some (.int .i64 (-3)) := below_cell_of hb_w23 (by first | (go_simp; done) | (refine below_cell_of (w := w22) ?_ (by first | assumption | (go_simp; done)); (repeat (first | assumption | exact Below.refl _ _ | refine below_set ?_ (by first | omega | (simp; done) | (simp; omega)) _ | refine below_drawn ?_ | refine below_drawnN ?_ _ | refine below_new ?_ _))))
  have d1_w23 : w23.cell? ⟨w16.heap.size, 1, none⟩ = some (.int .i64 2) := below_cell_of hb_w23 (by first | (go_simp; done) | (refine below_cell_of (w := w22) ?_ (by first | assumption | (go_simp; done)); (repeat (first | assumption | exact Below.refl _ _ | refine below_set ?_ (by first | omega | (simp; done) | (simp; omega)) _ | refine below_drawn ?_ | refine below_drawnN ?_ _ | refine below_new ?_ _))))
  go_wp2
  refine wp_region_held_drew (S := (fun W => W.cell? ⟨w3.heap.size, 0, none⟩ = some (.int .i64 4) ∧ W.cell? ⟨w3.heap.size, 1, none⟩ = some (.int .i64 15) ∧ W.cell? ⟨w6.heap.size, 0, none⟩ = some (.int .i64 0) ∧ W.cell? ⟨w6.heap.size, 1, none⟩ = some (.int .i64 1) ∧ W.cell? ⟨w9.heap.size, 0, none⟩ = some (.int .i64 (-3)) ∧ W.cell? ⟨w9.heap.size, 1, none⟩ = some (.int .i64 2) ∧ W.cell? ⟨w16.heap.size, 0, none⟩ = some (.int .i64 (-3)) ∧ W.cell? ⟨w16.heap.size, 1, none⟩ = some (.int .i64 2) ∧ Below w.heap.size w W)) (by kernel_rfl) ?_ (fun hHeld => ?_)
  · exact ⟨by first | assumption | (go_simp; done), by first | assumption | (go_simp; done), by first | assumption | (go_simp; done), by first | assumption | (go_simp; done), by first | assumption | (go_simp; done), by first | assumption | (go_simp; done), by first | assumption | (go_simp; done), by first | assumption | (go_simp; done), by (repeat (first | assumption | exact Below.refl _ _ | refine below_set ?_ (by first | omega | (simp; done) | (simp; omega)) _ | refine below_drawn ?_ | refine below_drawnN ?_ _ | refine below_new ?_ _))⟩
  refine wpAnyH_take (i := 0) (v := ?_) rfl (by kernel_rfl) (by kernel_rfl) (by kernel_rfl) (fun _ _ _ h => h) (Or.inl ⟨by rfl, ?_⟩) hHeld ?_
  rotate_left
  · intro wS hSw; obtain ⟨hS0, hS1, hS2, hS3, hS4, hS5, hS6, hS7, hS8⟩ := hSw; go_simp; try with_reducible rfl
  try go_simp
  refine wpAnyH_take (i := 1) (v := ?_) rfl (by kernel_rfl) (by kernel_rfl) (by kernel_rfl) (fun _ _ _ h => h) (Or.inl ⟨by rfl, ?_⟩) hHeld ?_
  rotate_left
  · intro wS hSw; obtain ⟨hS0, hS1, hS2, hS3, hS4, hS5, hS6, hS7, hS8⟩ := hSw; go_simp; try with_reducible rfl
  try go_simp
  refine wpAnyH_take (i := 2) (v := ?_) rfl (by kernel_rfl) (by kernel_rfl) (by kernel_rfl) (fun _ _ _ h => h) (Or.inl ⟨by rfl, ?_⟩) hHeld ?_
  rotate_left
  · intro wS hSw; obtain ⟨hS0, hS1, hS2, hS3, hS4, hS5, hS6, hS7, hS8⟩ := hSw; go_simp; try with_reducible rfl
  try go_simp
  refine wpAnyH_take (i := 3) (v := ?_) rfl (by kernel_rfl) (by kernel_rfl) (by kernel_rfl) (fun _ _ _ h => h) (Or.inl ⟨by rfl, ?_⟩) hHeld ?_
  rotate_left
  · intro wS hSw; obtain ⟨hS0, hS1, hS2, hS3, hS4, hS5, hS6, hS7, hS8⟩ := hSw; go_simp; try with_reducible rfl
  try go_simp
  refine wpAnyH_take (i := 4) (v := ?_) rfl (by kernel_rfl) (by kernel_rfl) (by kernel_rfl) (fun _ _ _ h => h) (Or.inl ⟨by rfl, ?_⟩) hHeld ?_
  rotate_left
  · intro wS hSw; obtain ⟨hS0, hS1, hS2, hS3, hS4, hS5, hS6, hS7, hS8⟩ := hSw; go_simp; try with_reducible rfl
  try go_simp
  refine wpAnyH_take (i := 5) (v := ?_) rfl (by kernel_rfl) (by kernel_rfl) (by kernel_rfl) (fun _ _ _ h => h) (Or.inl ⟨by rfl, ?_⟩) hHeld ?_
  rotate_left
  · intro wS hSw; obtain ⟨hS0, hS1, hS2, hS3, hS4, hS5, hS6, hS7, hS8⟩ := hSw; go_simp; try with_reducible rfl
  try go_simp
  refine wpAnyH_take (i := 6) (v := ?_) rfl (by kernel_rfl) (by kernel_rfl) (by kernel_rfl) (fun _ _ _ h => h) (Or.inl ⟨by rfl, ?_⟩) hHeld ?_
  rotate_left
  · intro wS hSw; obtain ⟨hS0, hS1, hS2, hS3, hS4, hS5, hS6, hS7, hS8⟩ := hSw; go_simp; try with_reducible rfl
  try go_simp
  refine wpAnyH_take (i := 7) (v := ?_) rfl (by kernel_rfl) (by kernel_rfl) (by kernel_rfl) (fun _ _ _ h => h) (Or.inl ⟨by rfl, ?_⟩) hHeld ?_
  rotate_left
  · intro wS hSw; obtain ⟨hS0, hS1, hS2, hS3, hS4, hS5, hS6, hS7, hS8⟩ := hSw; go_simp; try with_reducible rfl
  try go_simp
  refine wpAnyH_take (i := 8) (v := ?_) rfl (by kernel_rfl) (by kernel_rfl) (by kernel_rfl) (fun _ _ _ h => h) (Or.inl ⟨by rfl, ?_⟩) hHeld ?_
  rotate_left
  · intro wS hSw; obtain ⟨hS0, hS1, hS2, hS3, hS4, hS5, hS6, hS7, hS8⟩ := hSw; go_simp; try with_reducible rfl
  try go_simp
  refine wpAnyH_take (i := 9) (v := ?_) rfl (by kernel_rfl) (by kernel_rfl) (by kernel_rfl) (fun _ _ _ h => h) (Or.inl ⟨by rfl, ?_⟩) hHeld ?_
  rotate_left
  · intro wS hSw; obtain ⟨hS0, hS1, hS2, hS3, hS4, hS5, hS6, hS7, hS8⟩ := hSw; go_simp; try with_reducible rfl
  try go_simp
  refine wpAnyH_take (i := 10) (v := ?_) rfl (by kernel_rfl) (by kernel_rfl) (by kernel_rfl) (fun _ _ _ h => h) (Or.inl ⟨by rfl, ?_⟩) hHeld ?_
  rotate_left
  · intro wS hSw; obtain ⟨hS0, hS1, hS2, hS3, hS4, hS5, hS6, hS7, hS8⟩ := hSw; go_simp; try with_reducible rfl
  try go_simp
  refine wpAnyH_take (i := 11) (v := ?_) rfl (by kernel_rfl) (by kernel_rfl) (by kernel_rfl) (fun _ _ _ h => h) (Or.inl ⟨by rfl, ?_⟩) hHeld ?_
  rotate_left
  · intro wS hSw; obtain ⟨hS0, hS1, hS2, hS3, hS4, hS5, hS6, hS7, hS8⟩ := hSw; go_simp; try with_reducible rfl
  try go_simp
  refine wpAnyH_take (i := 12) (v := ?_) rfl (by kernel_rfl) (by kernel_rfl) (by kernel_rfl) (fun _ _ _ h => h) (Or.inl ⟨by rfl, ?_⟩) hHeld ?_
  rotate_left
  · intro wS hSw; obtain ⟨hS0, hS1, hS2, hS3, hS4, hS5, hS6, hS7, hS8⟩ := hSw; go_simp; try with_reducible rfl
  try go_simp
  refine wpAnyH_take (i := 13) (v := ?_) rfl (by kernel_rfl) (by kernel_rfl) (by kernel_rfl) (fun _ _ _ h => h) (Or.inl ⟨by rfl, ?_⟩) hHeld ?_
  rotate_left
  · intro wS hSw; obtain ⟨hS0, hS1, hS2, hS3, hS4, hS5, hS6, hS7, hS8⟩ := hSw; go_simp; try with_reducible rfl
  try go_simp
  refine wpAnyH_take (i := 14) (v := ?_) rfl (by kernel_rfl) (by kernel_rfl) (by kernel_rfl) (fun _ _ _ h => h) (Or.inl ⟨by rfl, ?_⟩) hHeld ?_
  rotate_left
  · intro wS hSw; obtain ⟨hS0, hS1, hS2, hS3, hS4, hS5, hS6, hS7, hS8⟩ := hSw; go_simp; try with_reducible rfl
  try go_simp
  refine wpAnyH_take (i := 15) (v := ?_) rfl (by kernel_rfl) (by kernel_rfl) (by kernel_rfl) (fun _ _ _ h => h) (Or.inl ⟨by rfl, ?_⟩) hHeld ?_
  rotate_left
  · intro wS hSw; obtain ⟨hS0, hS1, hS2, hS3, hS4, hS5, hS6, hS7, hS8⟩ := hSw; go_simp; try with_reducible rfl
  try go_simp
  refine wpAnyH_take (i := 16) (v := ?_) rfl (by kernel_rfl) (by kernel_rfl) (by kernel_rfl) (fun _ _ _ h => h) (Or.inl ⟨by rfl, ?_⟩) hHeld ?_
  rotate_left
  · intro wS hSw; obtain ⟨hS0, hS1, hS2, hS3, hS4, hS5, hS6, hS7, hS8⟩ := hSw; go_simp; try with_reducible rfl
  try go_simp
  refine wpAnyH_take (i := 17) (v := ?_) rfl (by kernel_rfl) (by kernel_rfl) (by kernel_rfl) (fun _ _ _ h => h) (Or.inl ⟨by rfl, ?_⟩) hHeld ?_
  rotate_left
  · intro wS hSw; obtain ⟨hS0, hS1, hS2, hS3, hS4, hS5, hS6, hS7, hS8⟩ := hSw; go_simp; try with_reducible rfl
  try go_simp
  refine wpAnyH_take (i := 18) (v := ?_) rfl (by kernel_rfl) (by kernel_rfl) (by kernel_rfl) (fun _ _ _ h => h) (Or.inl ⟨by rfl, ?_⟩) hHeld ?_
  rotate_left
  · intro wS hSw; obtain ⟨hS0, hS1, hS2, hS3, hS4, hS5, hS6, hS7, hS8⟩ := hSw; go_simp; try with_reducible rfl
  try go_simp
  refine wpAnyH_take (i := 19) (v := ?_) rfl (by kernel_rfl) (by kernel_rfl) (by kernel_rfl) (fun _ _ _ h => h) (Or.inl ⟨by rfl, ?_⟩) hHeld ?_
  rotate_left
  · intro wS hSw; obtain ⟨hS0, hS1, hS2, hS3, hS4, hS5, hS6, hS7, hS8⟩ := hSw; go_simp; try with_reducible rfl
  try go_simp
  refine wpAnyH_take (i := 20) (v := ?_) rfl (by kernel_rfl) (by kernel_rfl) (by kernel_rfl) (fun _ _ _ h => h) (Or.inl ⟨by rfl, ?_⟩) hHeld ?_
  rotate_left
  · intro wS hSw; obtain ⟨hS0, hS1, hS2, hS3, hS4, hS5, hS6, hS7, hS8⟩ := hSw; go_simp; try with_reducible rfl
  try go_simp
  refine wpAnyH_take (i := 21) (v := ?_) rfl (by kernel_rfl) (by kernel_rfl) (by kernel_rfl) (fun _ _ _ h => h) (Or.inl ⟨by rfl, ?_⟩) hHeld ?_
  rotate_left
  · intro wS hSw; obtain ⟨hS0, hS1, hS2, hS3, hS4, hS5, hS6, hS7, hS8⟩ := hSw; go_simp; try with_reducible rfl
  try go_simp
  refine wpAnyH_take (i := 22) (v := ?_) rfl (by kernel_rfl) (by kernel_rfl) (by kernel_rfl) (fun _ _ _ h => h) (Or.inl ⟨by rfl, ?_⟩) hHeld ?_
  rotate_left
  · intro wS hSw; obtain ⟨hS0, hS1, hS2, hS3, hS4, hS5, hS6, hS7, hS8⟩ := hSw; go_simp; try with_reducible rfl
  try go_simp
  refine wpAnyH_take (i := 23) (v := ?_) rfl (by kernel_rfl) (by kernel_rfl) (by kernel_rfl) (fun _ _ _ h => h) (Or.inl ⟨by rfl, ?_⟩) hHeld ?_
  rotate_left
  · intro wS hSw; obtain ⟨hS0, hS1, hS2, hS3, hS4, hS5, hS6, hS7, hS8⟩ := hSw; go_simp; try with_reducible rfl
  try go_simp
  refine wpAnyH_take (i := 24) (v := ?_) rfl (by kernel_rfl) (by kernel_rfl) (by kernel_rfl) (fun _ _ _ h => h) (Or.inl ⟨by rfl, ?_⟩) hHeld ?_
  rotate_left
  · intro wS hSw; obtain ⟨hS0, hS1, hS2, hS3, hS4, hS5, hS6, hS7, hS8⟩ := hSw; go_simp; try with_reducible rfl
  try go_simp
  refine wpAnyH_take (i := 25) (v := ?_) rfl (by kernel_rfl) (by kernel_rfl) (by kernel_rfl) (fun _ _ _ h => h) (Or.inl ⟨by rfl, ?_⟩) hHeld ?_
  rotate_left
  · intro wS hSw; obtain ⟨hS0, hS1, hS2, hS3, hS4, hS5, hS6, hS7, hS8⟩ := hSw; go_simp; try with_reducible rfl
  try go_simp
  refine wpAnyH_take (i := 26) (v := ?_) rfl (by kernel_rfl) (by kernel_rfl) (by kernel_rfl) (fun _ _ _ h => h) (Or.inl ⟨by rfl, ?_⟩) hHeld ?_
  rotate_left
  · intro wS hSw; obtain ⟨hS0, hS1, hS2, hS3, hS4, hS5, hS6, hS7, hS8⟩ := hSw; go_simp; try with_reducible rfl
  try go_simp
  refine wpAnyH_take (i := 27) (v := ?_) rfl (by kernel_rfl) (by kernel_rfl) (by kernel_rfl) (fun _ _ _ h => h) (Or.inl ⟨by rfl, ?_⟩) hHeld ?_
  rotate_left
  · intro wS hSw; obtain ⟨hS0, hS1, hS2, hS3, hS4, hS5, hS6, hS7, hS8⟩ := hSw; go_simp; try with_reducible rfl
  try go_simp
  refine wpAnyH_take (i := 28) (v := ?_) rfl (by kernel_rfl) (by kernel_rfl) (by kernel_rfl) (fun _ _ _ h => h) (Or.inl ⟨by rfl, ?_⟩) hHeld ?_
  rotate_left
  · intro wS hSw; obtain ⟨hS0, hS1, hS2, hS3, hS4, hS5, hS6, hS7, hS8⟩ := hSw; go_simp; try with_reducible rfl
  try go_simp
  refine wpAnyH_take (i := 29) (v := ?_) rfl (by kernel_rfl) (by kernel_rfl) (by kernel_rfl) (fun _ _ _ h => h) (Or.inl ⟨by rfl, ?_⟩) hHeld ?_
  rotate_left
  · intro wS hSw; obtain ⟨hS0, hS1, hS2, hS3, hS4, hS5, hS6, hS7, hS8⟩ := hSw; go_simp; try with_reducible rfl
  try go_simp
  refine wpAnyH_take (i := 30) (v := ?_) rfl (by kernel_rfl) (by kernel_rfl) (by kernel_rfl) (fun _ _ _ h => h) (Or.inl ⟨by rfl, ?_⟩) hHeld ?_
  rotate_left
  · intro wS hSw; obtain ⟨hS0, hS1, hS2, hS3, hS4, hS5, hS6, hS7, hS8⟩ := hSw; go_simp; try with_reducible rfl
  try go_simp
  refine wpAnyH_take (i := 31) (v := ?_) rfl (by kernel_rfl) (by kernel_rfl) (by kernel_rfl) (fun _ _ _ h => h) (Or.inl ⟨by rfl, ?_⟩) hHeld ?_
  rotate_left
  · intro wS hSw; obtain ⟨hS0, hS1, hS2, hS3, hS4, hS5, hS6, hS7, hS8⟩ := hSw; go_simp; try with_reducible rfl
  try go_simp
  refine wpAnyH_take (i := 32) (v := ?_) rfl (by kernel_rfl) (by kernel_rfl) (by kernel_rfl) (fun _ _ _ h => h) (Or.inl ⟨by rfl, ?_⟩) hHeld ?_
  rotate_left
  · intro wS hSw; obtain ⟨hS0, hS1, hS2, hS3, hS4, hS5, hS6, hS7, hS8⟩ := hSw; go_simp; try with_reducible rfl
  try go_simp
  refine wpAnyH_take (i := 33) (v := ?_) rfl (by kernel_rfl) (by kernel_rfl) (by kernel_rfl) (fun _ _ _ h => h) (Or.inl ⟨by rfl, ?_⟩) hHeld ?_
  rotate_left
  · intro wS hSw; obtain ⟨hS0, hS1, hS2, hS3, hS4, hS5, hS6, hS7, hS8⟩ := hSw; go_simp; try with_reducible rfl
  try go_simp
  refine wpAnyH_take (i := 34) (v := ?_) rfl (by kernel_rfl) (by kernel_rfl) (by kernel_rfl) (fun _ _ _ h => h) (Or.inl ⟨by rfl, ?_⟩) hHeld ?_
  rotate_left
  · intro wS hSw; obtain ⟨hS0, hS1, hS2, hS3, hS4, hS5, hS6, hS7, hS8⟩ := hSw; go_simp; try with_reducible rfl
  try go_simp
  refine wpAnyH_take (i := 35) (v := ?_) rfl (by kernel_rfl) (by kernel_rfl) (by kernel_rfl) (fun _ _ _ h => h) (Or.inl ⟨by rfl, ?_⟩) hHeld ?_
  rotate_left
  · intro wS hSw; obtain ⟨hS0, hS1, hS2, hS3, hS4, hS5, hS6, hS7, hS8⟩ := hSw; go_simp; try with_reducible rfl
  try go_simp
  refine wpAnyH_ready (rs := [36]) (by kernel_rfl) (by simp) ?_
  refine AllReadyH.cons rfl (fun K hK => ?_) AllReadyH.nil
  go_simp
  refine (lof_any 4 15 _).mono ?_
  rintro e w24 ⟨rfl, hb_w24⟩
  have hB_w24 : Below w.heap.size w w24 := below_on (by first | ((repeat (first | assumption | exact Below.refl _ _ | refine below_set ?_ (by first | omega | (simp; done) | (simp; omega)) _ | refine below_drawn ?_ | refine below_drawnN ?_ _ | refine below_new ?_ _)); done) | (refine below_on hB_w23 ?_; (repeat (first | assumption | exact Below.refl _ _ | refine below_set ?_ (by first | omega | (simp; done) | (simp; omega)) _ | refine below_drawn ?_ | refine below_drawnN ?_ _ | refine below_new ?_ _)))) hb_w24
  have hz_w24 := hb_w24.size
  try simp only [World.size_setCell] at hz_w24
  try simp only [World.size_drew] at hz_w24
  try simp only [World.size_drewN] at hz_w24
  try simp only [World.size_alloc] at hz_w24
  try simp only [World.size_setCell] at hz_w24
  try simp only [World.size_drew] at hz_w24
  try simp only [World.size_drewN] at hz_w24
  try simp only [World.size_alloc] at hz_w24
  have hl0_w24 : w3.heap.size < w24.heap.size := by omega
  have hl1_w24 : w6.heap.size < w24.heap.size := by omega
  have hl2_w24 : w9.heap.size < w24.heap.size := by omega
  have hl3_w24 : w16.heap.size < w24.heap.size := by omega
  have a0_w24 : w24.cell? ⟨w3.heap.size, 0, none⟩ = some (.int .i64 4) := below_cell_of hb_w24 (by first | (go_simp; done) | (refine below_cell_of (w := w23) ?_ (by first | assumption | (go_simp; done)); (repeat (first | assumption | exact Below.refl _ _ | refine below_set ?_ (by first | omega | (simp; done) | (simp; omega)) _ | refine below_drawn ?_ | refine below_drawnN ?_ _ | refine below_new ?_ _))))
  have a1_w24 : w24.cell? ⟨w3.heap.size, 1, none⟩ = some (.int .i64 15) := below_cell_of hb_w24 (by first | (go_simp; done) | (refine below_cell_of (w := w23) ?_ (by first | assumption | (go_simp; done)); (repeat (first | assumption | exact Below.refl _ _ | refine below_set ?_ (by first | omega | (simp; done) | (simp; omega)) _ | refine below_drawn ?_ | refine below_drawnN ?_ _ | refine below_new ?_ _))))
  have b0_w24 : w24.cell? ⟨w6.heap.size, 0, none⟩ = some (.int .i64 0) := below_cell_of hb_w24 (by first | (go_simp; done) | (refine below_cell_of (w := w23) ?_ (by first | assumption | (go_simp; done)); (repeat (first | assumption | exact Below.refl _ _ | refine below_set ?_ (by first | omega | (simp; done) | (simp; omega)) _ | refine below_drawn ?_ | refine below_drawnN ?_ _ | refine below_new ?_ _))))
  have b1_w24 : w24.cell? ⟨w6.heap.size, 1, none⟩ = some (.int .i64 1) := below_cell_of hb_w24 (by first | (go_simp; done) | (refine below_cell_of (w := w23) ?_ (by first | assumption | (go_simp; done)); (repeat (first | assumption | exact Below.refl _ _ | refine below_set ?_ (by first | omega | (simp; done) | (simp; omega)) _ | refine below_drawn ?_ | refine below_drawnN ?_ _ | refine below_new ?_ _))))
  have c0_w24 : w24.cell? ⟨w9.heap.size, 0, none⟩ = some (.int .i64 (-3)) := below_cell_of hb_w24 (by first | (go_simp; done) | (refine below_cell_of (w := w23) ?_ (by first | assumption | (go_simp; done)); (repeat (first | assumption | exact Below.refl _ _ | refine below_set ?_ (by first | omega | (simp; done) | (simp; omega)) _ | refine below_drawn ?_ | refine below_drawnN ?_ _ | refine below_new ?_ _))))
  have c1_w24 : w24.cell? ⟨w9.heap.size, 1, none⟩ = some (.int .i64 2) := below_cell_of hb_w24 (by first | (go_simp; done) | (refine below_cell_of (w := w23) ?_ (by first | assumption | (go_simp; done)); (repeat (first | assumption | exact Below.refl _ _ | refine below_set ?_ (by first | omega | (simp; done) | (simp; omega)) _ | refine below_drawn ?_ | refine below_drawnN ?_ _ | refine below_new ?_ _))))
  have d0_w24 : w24.cell? ⟨w16.heap.size, 0, none⟩ = some (.int .i64 (-3)) := below_cell_of hb_w24 (by first | (go_simp; done) | (refine below_cell_of (w := w23) ?_ (by first | assumption | (go_simp; done)); (repeat (first | assumption | exact Below.refl _ _ | refine below_set ?_ (by first | omega | (simp; done) | (simp; omega)) _ | refine below_drawn ?_ | refine below_drawnN ?_ _ | refine below_new ?_ _))))
  have d1_w24 : w24.cell? ⟨w16.heap.size, 1, none⟩ = some (.int .i64 2) := below_cell_of hb_w24 (by first | (go_simp; done) | (refine below_cell_of (w := w23) ?_ (by first | assumption | (go_simp; done)); (repeat (first | assumption | exact Below.refl _ _ | refine below_set ?_ (by first | omega | (simp; done) | (simp; omega)) _ | refine below_drawn ?_ | refine below_drawnN ?_ _ | refine below_new ?_ _))))
  refine hK.out _ _ ?_ (fun hHeld => ?_)
  · exact ⟨by first | assumption | (go_simp; done), by first | assumption | (go_simp; done), by first | assumption | (go_simp; done), by first | assumption | (go_simp; done), by first | assumption | (go_simp; done), by first | assumption | (go_simp; done), by first | assumption | (go_simp; done), by first | assumption | (go_simp; done), by (repeat (first | assumption | exact Below.refl _ _ | refine below_set ?_ (by first | omega | (simp; done) | (simp; omega)) _ | refine below_drawn ?_ | refine below_drawnN ?_ _ | refine below_new ?_ _))⟩
  clear hK K
  try go_simp
  refine wpAnyH_take (i := 37) (v := ?_) rfl (by kernel_rfl) (by kernel_rfl) (by kernel_rfl) (fun _ _ _ h => h) (Or.inl ⟨by rfl, ?_⟩) hHeld ?_
  rotate_left
  · intro wS hSw; obtain ⟨hS0, hS1, hS2, hS3, hS4, hS5, hS6, hS7, hS8⟩ := hSw; go_simp; try with_reducible rfl
  try go_simp
  refine wpAnyH_take (i := 38) (v := ?_) rfl (by kernel_rfl) (by kernel_rfl) (by kernel_rfl) (fun _ _ _ h => h) (Or.inl ⟨by rfl, ?_⟩) hHeld ?_
  rotate_left
  · intro wS hSw; obtain ⟨hS0, hS1, hS2, hS3, hS4, hS5, hS6, hS7, hS8⟩ := hSw; go_simp; try with_reducible rfl
  try go_simp
  refine wpAnyH_take (i := 39) (v := ?_) rfl (by kernel_rfl) (by kernel_rfl) (by kernel_rfl) (fun _ _ _ h => h) (Or.inl ⟨by rfl, ?_⟩) hHeld ?_
  rotate_left
  · intro wS hSw; obtain ⟨hS0, hS1, hS2, hS3, hS4, hS5, hS6, hS7, hS8⟩ := hSw; go_simp; try with_reducible rfl
  try go_simp
  refine wpAnyH_take (i := 40) (v := ?_) rfl (by kernel_rfl) (by kernel_rfl) (by kernel_rfl) (fun _ _ _ h => h) (Or.inl ⟨by rfl, ?_⟩) hHeld ?_
  rotate_left
  · intro wS hSw; obtain ⟨hS0, hS1, hS2, hS3, hS4, hS5, hS6, hS7, hS8⟩ := hSw; go_simp; try with_reducible rfl
  try go_simp
  refine wpAnyH_ready (rs := [41]) (by kernel_rfl) (by simp) ?_
  refine AllReadyH.cons rfl (fun K hK => ?_) AllReadyH.nil
  go_simp
  refine (lof_any 0 1 _).mono ?_
  rintro e w25 ⟨rfl, hb_w25⟩
  have hB_w25 : Below w.heap.size w w25 := below_on (by first | ((repeat (first | assumption | exact Below.refl _ _ | refine below_set ?_ (by first | omega | (simp; done) | (simp; omega)) _ | refine below_drawn ?_ | refine below_drawnN ?_ _ | refine below_new ?_ _)); done) | (refine below_on hB_w24 ?_; (repeat (first | assumption | exact Below.refl _ _ | refine below_set ?_ (by first | omega | (simp; done) | (simp; omega)) _ | refine below_drawn ?_ | refine below_drawnN ?_ _ | refine below_new ?_ _)))) hb_w25
  have hz_w25 := hb_w25.size
  try simp only [World.size_setCell] at hz_w25
  try simp only [World.size_drew] at hz_w25
  try simp only [World.size_drewN] at hz_w25
  try simp only [World.size_alloc] at hz_w25
  try simp only [World.size_setCell] at hz_w25
  try simp only [World.size_drew] at hz_w25
  try simp only [World.size_drewN] at hz_w25
  try simp only [World.size_alloc] at hz_w25
  have hl0_w25 : w3.heap.size < w25.heap.size := by omega
  have hl1_w25 : w6.heap.size < w25.heap.size := by omega
  have hl2_w25 : w9.heap.size < w25.heap.size := by omega
  have hl3_w25 : w16.heap.size < w25.heap.size := by omega
  have a0_w25 : w25.cell? ⟨w3.heap.size, 0, none⟩ = some (.int .i64 4) := below_cell_of hb_w25 (by first | (go_simp; done) | (refine below_cell_of (w := w24) ?_ (by first | assumption | (go_simp; done)); (repeat (first | assumption | exact Below.refl _ _ | refine below_set ?_ (by first | omega | (simp; done) | (simp; omega)) _ | refine below_drawn ?_ | refine below_drawnN ?_ _ | refine below_new ?_ _))))
  have a1_w25 : w25.cell? ⟨w3.heap.size, 1, none⟩ = some (.int .i64 15) := below_cell_of hb_w25 (by first | (go_simp; done) | (refine below_cell_of (w := w24) ?_ (by first | assumption | (go_simp; done)); (repeat (first | assumption | exact Below.refl _ _ | refine below_set ?_ (by first | omega | (simp; done) | (simp; omega)) _ | refine below_drawn ?_ | refine below_drawnN ?_ _ | refine below_new ?_ _))))
  have b0_w25 : w25.cell? ⟨w6.heap.size, 0, none⟩ = some (.int .i64 0) := below_cell_of hb_w25 (by first | (go_simp; done) | (refine below_cell_of (w := w24) ?_ (by first | assumption | (go_simp; done)); (repeat (first | assumption | exact Below.refl _ _ | refine below_set ?_ (by first | omega | (simp; done) | (simp; omega)) _ | refine below_drawn ?_ | refine below_drawnN ?_ _ | refine below_new ?_ _))))
  have b1_w25 : w25.cell? ⟨w6.heap.size, 1, none⟩ = some (.int .i64 1) := below_cell_of hb_w25 (by first | (go_simp; done) | (refine below_cell_of (w := w24) ?_ (by first | assumption | (go_simp; done)); (repeat (first | assumption | exact Below.refl _ _ | refine below_set ?_ (by first | omega | (simp; done) | (simp; omega)) _ | refine below_drawn ?_ | refine below_drawnN ?_ _ | refine below_new ?_ _))))
  have c0_w25 : w25.cell? ⟨w9.heap.size, 0, none⟩ = some (.int .i64 (-3)) := below_cell_of hb_w25 (by first | (go_simp; done) | (refine below_cell_of (w := w24) ?_ (by first | assumption | (go_simp; done)); (repeat (first | assumption | exact Below.refl _ _ | refine below_set ?_ (by first | omega | (simp; done) | (simp; omega)) _ | refine below_drawn ?_ | refine below_drawnN ?_ _ | refine below_new ?_ _))))
  have c1_w25 : w25.cell? ⟨w9.heap.size, 1, none⟩ = some (.int .i64 2) := below_cell_of hb_w25 (by first | (go_simp; done) | (refine below_cell_of (w := w24) ?_ (by first | assumption | (go_simp; done)); (repeat (first | assumption | exact Below.refl _ _ | refine below_set ?_ (by first | omega | (simp; done) | (simp; omega)) _ | refine below_drawn ?_ | refine below_drawnN ?_ _ | refine below_new ?_ _))))
  have d0_w25 : w25.cell? ⟨w16.heap.size, 0, none⟩ = some (.int .i64 (-3)) := below_cell_of hb_w25 (by first | (go_simp; done) | (refine below_cell_of (w := w24) ?_ (by first | assumption | (go_simp; done)); (repeat (first | assumption | exact Below.refl _ _ | refine below_set ?_ (by first | omega | (simp; done) | (simp; omega)) _ | refine below_drawn ?_ | refine below_drawnN ?_ _ | refine below_new ?_ _))))
  have d1_w25 : w25.cell? ⟨w16.heap.size, 1, none⟩ = some (.int .i64 2) := below_cell_of hb_w25 (by first | (go_simp; done) | (refine below_cell_of (w := w24) ?_ (by first | assumption | (go_simp; done)); (repeat (first | assumption | exact Below.refl _ _ | refine below_set ?_ (by first | omega | (simp; done) | (simp; omega)) _ | refine below_drawn ?_ | refine below_drawnN ?_ _ | refine below_new ?_ _))))
  refine hK.out _ _ ?_ (fun hHeld => ?_)
  · exact ⟨by first | assumption | (go_simp; done), by first | assumption | (go_simp; done), by first | assumption | (go_simp; done), by first | assumption | (go_simp; done), by first | assumption | (go_simp; done), by first | assumption | (go_simp; done), by first | assumption | (go_simp; done), by first | assumption | (go_simp; done), by (repeat (first | assumption | exact Below.refl _ _ | refine below_set ?_ (by first | omega | (simp; done) | (simp; omega)) _ | refine below_drawn ?_ | refine below_drawnN ?_ _ | refine below_new ?_ _))⟩
  clear hK K
  try go_simp
  refine wpAnyH_take (i := 42) (v := ?_) rfl (by kernel_rfl) (by kernel_rfl) (by kernel_rfl) (fun _ _ _ h => h) (Or.inl ⟨by rfl, ?_⟩) hHeld ?_
  rotate_left
  · intro wS hSw; obtain ⟨hS0, hS1, hS2, hS3, hS4, hS5, hS6, hS7, hS8⟩ := hSw; go_simp; try with_reducible rfl
  try go_simp
  refine wpAnyH_take (i := 43) (v := ?_) rfl (by kernel_rfl) (by kernel_rfl) (by kernel_rfl) (fun _ _ _ h => h) (Or.inl ⟨by rfl, ?_⟩) hHeld ?_
  rotate_left
  · intro wS hSw; obtain ⟨hS0, hS1, hS2, hS3, hS4, hS5, hS6, hS7, hS8⟩ := hSw; go_simp; try with_reducible rfl
  try go_simp
  refine wpAnyH_take (i := 44) (v := ?_) rfl (by kernel_rfl) (by kernel_rfl) (by kernel_rfl) (fun _ _ _ h => h) (Or.inl ⟨by rfl, ?_⟩) hHeld ?_
  rotate_left
  · intro wS hSw; obtain ⟨hS0, hS1, hS2, hS3, hS4, hS5, hS6, hS7, hS8⟩ := hSw; go_simp; try with_reducible rfl
  try go_simp
  refine wpAnyH_take (i := 45) (v := ?_) rfl (by kernel_rfl) (by kernel_rfl) (by kernel_rfl) (fun _ _ _ h => h) (Or.inl ⟨by rfl, ?_⟩) hHeld ?_
  rotate_left
  · intro wS hSw; obtain ⟨hS0, hS1, hS2, hS3, hS4, hS5, hS6, hS7, hS8⟩ := hSw; go_simp; try with_reducible rfl
  try go_simp
  refine wpAnyH_ready (rs := [46]) (by kernel_rfl) (by simp) ?_
  refine AllReadyH.cons rfl (fun K hK => ?_) AllReadyH.nil
  go_simp
  refine (lof_any (-3) 2 _).mono ?_
  rintro e w26 ⟨rfl, hb_w26⟩
  have hB_w26 : Below w.heap.size w w26 := below_on (by first | ((repeat (first | assumption | exact Below.refl _ _ | refine below_set ?_ (by first | omega | (simp; done) | (simp; omega)) _ | refine below_drawn ?_ | refine below_drawnN ?_ _ | refine below_new ?_ _)); done) | (refine below_on hB_w25 ?_; (repeat (first | assumption | exact Below.refl _ _ | refine below_set ?_ (by first | omega | (simp; done) | (simp; omega)) _ | refine below_drawn ?_ | refine below_drawnN ?_ _ | refine below_new ?_ _)))) hb_w26
  have hz_w26 := hb_w26.size
  try simp only [World.size_setCell] at hz_w26
  try simp only [World.size_drew] at hz_w26
  try simp only [World.size_drewN] at hz_w26
  try simp only [World.size_alloc] at hz_w26
  try simp only [World.size_setCell] at hz_w26
  try simp only [World.size_drew] at hz_w26
  try simp only [World.size_drewN] at hz_w26
  try simp only [World.size_alloc] at hz_w26
  have hl0_w26 : w3.heap.size < w26.heap.size := by omega
  have hl1_w26 : w6.heap.size < w26.heap.size := by omega
  have hl2_w26 : w9.heap.size < w26.heap.size := by omega
  have hl3_w26 : w16.heap.size < w26.heap.size := by omega
  have a0_w26 : w26.cell? ⟨w3.heap.size, 0, none⟩ = some (.int .i64 4) := below_cell_of hb_w26 (by first | (go_simp; done) | (refine below_cell_of (w := w25) ?_ (by first | assumption | (go_simp; done)); (repeat (first | assumption | exact Below.refl _ _ | refine below_set ?_ (by first | omega | (simp; done) | (simp; omega)) _ | refine below_drawn ?_ | refine below_drawnN ?_ _ | refine below_new ?_ _))))
  have a1_w26 : w26.cell? ⟨w3.heap.size, 1, none⟩ = some (.int .i64 15) := below_cell_of hb_w26 (by first | (go_simp; done) | (refine below_cell_of (w := w25) ?_ (by first | assumption | (go_simp; done)); (repeat (first | assumption | exact Below.refl _ _ | refine below_set ?_ (by first | omega | (simp; done) | (simp; omega)) _ | refine below_drawn ?_ | refine below_drawnN ?_ _ | refine below_new ?_ _))))
  have b0_w26 : w26.cell? ⟨w6.heap.size, 0, none⟩ = some (.int .i64 0) := below_cell_of hb_w26 (by first | (go_simp; done) | (refine below_cell_of (w := w25) ?_ (by first | assumption | (go_simp; done)); (repeat (first | assumption | exact Below.refl _ _ | refine below_set ?_ (by first | omega | (simp; done) | (simp; omega)) _ | refine below_drawn ?_ | refine below_drawnN ?_ _ | refine below_new ?_ _))))
  have b1_w26 : w26.cell? ⟨w6.heap.size, 1, none⟩ = some (.int .i64 1) := below_cell_of hb_w26 (by first | (go_simp; done) | (refine below_cell_of (w := w25) ?_ (by first | assumption | (go_simp; done)); (repeat (first | assumption | exact Below.refl _ _ | refine below_set ?_ (by first | omega | (simp; done) | (simp; omega)) _ | refine below_drawn ?_ | refine below_drawnN ?_ _ | refine below_new ?_ _))))
  have c0_w26 : w26.cell? ⟨w9.heap.size, 0, none⟩ = some (.int .i64 (-3)) := below_cell_of hb_w26 (by first | (go_simp; done) | (refine below_cell_of (w := w25) ?_ (by first | assumption | (go_simp; done)); (repeat (first | assumption | exact Below.refl _ _ | refine below_set ?_ (by first | omega | (simp; done) | (simp; omega)) _ | refine below_drawn ?_ | refine below_drawnN ?_ _ | refine below_new ?_ _))))
  have c1_w26 : w26.cell? ⟨w9.heap.size, 1, none⟩ = some (.int .i64 2) := below_cell_of hb_w26 (by first | (go_simp; done) | (refine below_cell_of (w := w25) ?_ (by first | assumption | (go_simp; done)); (repeat (first | assumption | exact Below.refl _ _ | refine below_set ?_ (by first | omega | (simp; done) | (simp; omega)) _ | refine below_drawn ?_ | refine below_drawnN ?_ _ | refine below_new ?_ _))))
  have d0_w26 : w26.cell? ⟨w16.heap.size, 0, none⟩ = some (.int .i64 (-3)) := below_cell_of hb_w26 (by first | (go_simp; done) | (refine below_cell_of (w := w25) ?_ (by first | assumption | (go_simp; done)); (repeat (first | assumption | exact Below.refl _ _ | refine below_set ?_ (by first | omega | (simp; done) | (simp; omega)) _ | refine below_drawn ?_ | refine below_drawnN ?_ _ | refine below_new ?_ _))))
  have d1_w26 : w26.cell? ⟨w16.heap.size, 1, none⟩ = some (.int .i64 2) := below_cell_of hb_w26 (by first | (go_simp; done) | (refine below_cell_of (w := w25) ?_ (by first | assumption | (go_simp; done)); (repeat (first | assumption | exact Below.refl _ _ | refine below_set ?_ (by first | omega | (simp; done) | (simp; omega)) _ | refine below_drawn ?_ | refine below_drawnN ?_ _ | refine below_new ?_ _))))
  refine hK.out _ _ ?_ (fun hHeld => ?_)
  · exact ⟨by first | assumption | (go_simp; done), by first | assumption | (go_simp; done), by first | assumption | (go_simp; done), by first | assumption | (go_simp; done), by first | assumption | (go_simp; done), by first | assumption | (go_simp; done), by first | assumption | (go_simp; done), by first | assumption | (go_simp; done), by (repeat (first | assumption | exact Below.refl _ _ | refine below_set ?_ (by first | omega | (simp; done) | (simp; omega)) _ | refine below_drawn ?_ | refine below_drawnN ?_ _ | refine below_new ?_ _))⟩
  clear hK K
  try go_simp
  refine wpAnyH_take (i := 47) (v := ?_) rfl (by kernel_rfl) (by kernel_rfl) (by kernel_rfl) (fun _ _ _ h => h) (Or.inl ⟨by rfl, ?_⟩) hHeld ?_
  rotate_left
  · intro wS hSw; obtain ⟨hS0, hS1, hS2, hS3, hS4, hS5, hS6, hS7, hS8⟩ := hSw; go_simp; try with_reducible rfl
  try go_simp
  refine wpAnyH_take (i := 48) (v := ?_) rfl (by kernel_rfl) (by kernel_rfl) (by kernel_rfl) (fun _ _ _ h => h) (Or.inl ⟨by rfl, ?_⟩) hHeld ?_
  rotate_left
  · intro wS hSw; obtain ⟨hS0, hS1, hS2, hS3, hS4, hS5, hS6, hS7, hS8⟩ := hSw; go_simp; try with_reducible rfl
  try go_simp
  refine wpAnyH_take (i := 49) (v := ?_) rfl (by kernel_rfl) (by kernel_rfl) (by kernel_rfl) (fun _ _ _ h => h) (Or.inl ⟨by rfl, ?_⟩) hHeld ?_
  rotate_left
  · intro wS hSw; obtain ⟨hS0, hS1, hS2, hS3, hS4, hS5, hS6, hS7, hS8⟩ := hSw; go_simp; try with_reducible rfl
  try go_simp
  refine wpAnyH_take (i := 50) (v := ?_) rfl (by kernel_rfl) (by kernel_rfl) (by kernel_rfl) (fun _ _ _ h => h) (Or.inl ⟨by rfl, ?_⟩) hHeld ?_
  rotate_left
  · intro wS hSw; obtain ⟨hS0, hS1, hS2, hS3, hS4, hS5, hS6, hS7, hS8⟩ := hSw; go_simp; try with_reducible rfl
  try go_simp
  refine wpAnyH_ready (rs := [51]) (by kernel_rfl) (by simp) ?_
  refine AllReadyH.cons rfl (fun K hK => ?_) AllReadyH.nil
  go_simp
  refine (lof_any (-3) 2 _).mono ?_
  rintro e w27 ⟨rfl, hb_w27⟩
  have hB_w27 : Below w.heap.size w w27 := below_on (by first | ((repeat (first | assumption | exact Below.refl _ _ | refine below_set ?_ (by first | omega | (simp; done) | (simp; omega)) _ | refine below_drawn ?_ | refine below_drawnN ?_ _ | refine below_new ?_ _)); done) | (refine below_on hB_w26 ?_; (repeat (first | assumption | exact Below.refl _ _ | refine below_set ?_ (by first | omega | (simp; done) | (simp; omega)) _ | refine below_drawn ?_ | refine below_drawnN ?_ _ | refine below_new ?_ _)))) hb_w27
  have hz_w27 := hb_w27.size
  try simp only [World.size_setCell] at hz_w27
  try simp only [World.size_drew] at hz_w27
  try simp only [World.size_drewN] at hz_w27
  try simp only [World.size_alloc] at hz_w27
  try simp only [World.size_setCell] at hz_w27
  try simp only [World.size_drew] at hz_w27
  try simp only [World.size_drewN] at hz_w27
  try simp only [World.size_alloc] at hz_w27
  have hl0_w27 : w3.heap.size < w27.heap.size := by omega
  have hl1_w27 : w6.heap.size < w27.heap.size := by omega
  have hl2_w27 : w9.heap.size < w27.heap.size := by omega
  have hl3_w27 : w16.heap.size < w27.heap.size := by omega
  have a0_w27 : w27.cell? ⟨w3.heap.size, 0, none⟩ = some (.int .i64 4) := below_cell_of hb_w27 (by first | (go_simp; done) | (refine below_cell_of (w := w26) ?_ (by first | assumption | (go_simp; done)); (repeat (first | assumption | exact Below.refl _ _ | refine below_set ?_ (by first | omega | (simp; done) | (simp; omega)) _ | refine below_drawn ?_ | refine below_drawnN ?_ _ | refine below_new ?_ _))))
  have a1_w27 : w27.cell? ⟨w3.heap.size, 1, none⟩ = some (.int .i64 15) := below_cell_of hb_w27 (by first | (go_simp; done) | (refine below_cell_of (w := w26) ?_ (by first | assumption | (go_simp; done)); (repeat (first | assumption | exact Below.refl _ _ | refine below_set ?_ (by first | omega | (simp; done) | (simp; omega)) _ | refine below_drawn ?_ | refine below_drawnN ?_ _ | refine below_new ?_ _))))
  have b0_w27 : w27.cell? ⟨w6.heap.size, 0, none⟩ = some (.int .i64 0) := below_cell_of hb_w27 (by first | (go_simp; done) | (refine below_cell_of (w := w26) ?_ (by first | assumption | (go_simp; done)); (repeat (first | assumption | exact Below.refl _ _ | refine below_set ?_ (by first | omega | (simp; done) | (simp; omega)) _ | refine below_drawn ?_ | refine below_drawnN ?_ _ | refine below_new ?_ _))))
  have b1_w27 : w27.cell? ⟨w6.heap.size, 1, none⟩ = some (.int .i64 1) := below_cell_of hb_w27 (by first | (go_simp; done) | (refine below_cell_of (w := w26) ?_ (by first | assumption | (go_simp; done)); (repeat (first | assumption | exact Below.refl _ _ | refine below_set ?_ (by first | omega | (simp; done) | (simp; omega)) _ | refine below_drawn ?_ | refine below_drawnN ?_ _ | refine below_new ?_ _))))
  have c0_w27 : w27.cell? ⟨w9.heap.size, 0, none⟩ = some (.int .i64 (-3)) := below_cell_of hb_w27 (by first | (go_simp; done) | (refine below_cell_of (w := w26) ?_ (by first | assumption | (go_simp; done)); (repeat (first | assumption | exact Below.refl _ _ | refine below_set ?_ (by first | omega | (simp; done) | (simp; omega)) _ | refine below_drawn ?_ | refine below_drawnN ?_ _ | refine below_new ?_ _))))
  have c1_w27 : w27.cell? ⟨w9.heap.size, 1, none⟩ = some (.int .i64 2) := below_cell_of hb_w27 (by first | (go_simp; done) | (refine below_cell_of (w := w26) ?_ (by first | assumption | (go_simp; done)); (repeat (first | assumption | exact Below.refl _ _ | refine below_set ?_ (by first | omega | (simp; done) | (simp; omega)) _ | refine below_drawn ?_ | refine below_drawnN ?_ _ | refine below_new ?_ _))))
  have d0_w27 : w27.cell? ⟨w16.heap.size, 0, none⟩ = some (.int .i64 (-3)) := below_cell_of hb_w27 (by first | (go_simp; done) | (refine below_cell_of (w := w26) ?_ (by first | assumption | (go_simp; done)); (repeat (first | assumption | exact Below.refl _ _ | refine below_set ?_ (by first | omega | (simp; done) | (simp; omega)) _ | refine below_drawn ?_ | refine below_drawnN ?_ _ | refine below_new ?_ _))))
  have d1_w27 : w27.cell? ⟨w16.heap.size, 1, none⟩ = some (.int .i64 2) := below_cell_of hb_w27 (by first | (go_simp; done) | (refine below_cell_of (w := w26) ?_ (by first | assumption | (go_simp; done)); (repeat (first | assumption | exact Below.refl _ _ | refine below_set ?_ (by first | omega | (simp; done) | (simp; omega)) _ | refine below_drawn ?_ | refine below_drawnN ?_ _ | refine below_new ?_ _))))
  refine hK.out _ _ ?_ (fun hHeld => ?_)
  · exact ⟨by first | assumption | (go_simp; done), by first | assumption | (go_simp; done), by first | assumption | (go_simp; done), by first | assumption | (go_simp; done), by first | assumption | (go_simp; done), by first | assumption | (go_simp; done), by first | assumption | (go_simp; done), by first | assumption | (go_simp; done), by (repeat (first | assumption | exact Below.refl _ _ | refine below_set ?_ (by first | omega | (simp; done) | (simp; omega)) _ | refine below_drawn ?_ | refine below_drawnN ?_ _ | refine below_new ?_ _))⟩
  clear hK K
  try go_simp
  refine wpAnyH_take (i := 52) (v := ?_) rfl (by kernel_rfl) (by kernel_rfl) (by kernel_rfl) (fun _ _ _ h => h) (Or.inl ⟨by rfl, ?_⟩) hHeld ?_
  rotate_left
  · intro wS hSw; obtain ⟨hS0, hS1, hS2, hS3, hS4, hS5, hS6, hS7, hS8⟩ := hSw; go_simp; try with_reducible rfl
  try go_simp
  refine wpAnyH_take (i := 53) (v := ?_) rfl (by kernel_rfl) (by kernel_rfl) (by kernel_rfl) (fun _ _ _ h => h) (Or.inl ⟨by rfl, ?_⟩) hHeld ?_
  rotate_left
  · intro wS hSw; obtain ⟨hS0, hS1, hS2, hS3, hS4, hS5, hS6, hS7, hS8⟩ := hSw; go_simp; try with_reducible rfl
  try go_simp
  refine wpAnyH_take (i := 54) (v := ?_) rfl (by kernel_rfl) (by kernel_rfl) (by kernel_rfl) (fun _ _ _ h => h) (Or.inl ⟨by rfl, ?_⟩) hHeld ?_
  rotate_left
  · intro wS hSw; obtain ⟨hS0, hS1, hS2, hS3, hS4, hS5, hS6, hS7, hS8⟩ := hSw; go_simp; try with_reducible rfl
  try go_simp
  refine wpAnyH_take (i := 55) (v := ?_) rfl (by kernel_rfl) (by kernel_rfl) (by kernel_rfl) (fun _ _ _ h => h) (Or.inl ⟨by rfl, ?_⟩) hHeld ?_
  rotate_left
  · intro wS hSw; obtain ⟨hS0, hS1, hS2, hS3, hS4, hS5, hS6, hS7, hS8⟩ := hSw; go_simp; try with_reducible rfl
  try go_simp
  refine wpAnyH_take (i := 56) (v := ?_) rfl (by kernel_rfl) (by kernel_rfl) (by kernel_rfl) (fun _ _ _ h => h) (Or.inl ⟨by rfl, ?_⟩) hHeld ?_
  rotate_left
  · intro wS hSw; obtain ⟨hS0, hS1, hS2, hS3, hS4, hS5, hS6, hS7, hS8⟩ := hSw; go_simp; try with_reducible rfl
  try go_simp
  refine wpAnyH_take (i := 57) (v := ?_) rfl (by kernel_rfl) (by kernel_rfl) (by kernel_rfl) (fun _ _ _ h => h) (Or.inl ⟨by rfl, ?_⟩) hHeld ?_
  rotate_left
  · intro wS hSw; obtain ⟨hS0, hS1, hS2, hS3, hS4, hS5, hS6, hS7, hS8⟩ := hSw; go_simp; try with_reducible rfl
  try go_simp
  refine wpAnyH_take (i := 58) (v := ?_) rfl (by kernel_rfl) (by kernel_rfl) (by kernel_rfl) (fun _ _ _ h => h) (Or.inl ⟨by rfl, ?_⟩) hHeld ?_
  rotate_left
  · intro wS hSw; obtain ⟨hS0, hS1, hS2, hS3, hS4, hS5, hS6, hS7, hS8⟩ := hSw; go_simp; try with_reducible rfl
  try go_simp
  refine wpAnyH_ready (rs := [59]) (by kernel_rfl) (by simp) ?_
  refine AllReadyH.cons rfl (fun K hK => ?_) AllReadyH.nil
  go_simp
  refine (lof_any 0 1 _).mono ?_
  rintro e w28 ⟨rfl, hb_w28⟩
  have hB_w28 : Below w.heap.size w w28 := below_on (by first | ((repeat (first | assumption | exact Below.refl _ _ | refine below_set ?_ (by first | omega | (simp; done) | (simp; omega)) _ | refine below_drawn ?_ | refine below_drawnN ?_ _ | refine below_new ?_ _)); done) | (refine below_on hB_w27 ?_; (repeat (first | assumption | exact Below.refl _ _ | refine below_set ?_ (by first | omega | (simp; done) | (simp; omega)) _ | refine below_drawn ?_ | refine below_drawnN ?_ _ | refine below_new ?_ _)))) hb_w28
  have hz_w28 := hb_w28.size
  try simp only [World.size_setCell] at hz_w28
  try simp only [World.size_drew] at hz_w28
  try simp only [World.size_drewN] at hz_w28
  try simp only [World.size_alloc] at hz_w28
  try simp only [World.size_setCell] at hz_w28
  try simp only [World.size_drew] at hz_w28
  try simp only [World.size_drewN] at hz_w28
  try simp only [World.size_alloc] at hz_w28
  have hl0_w28 : w3.heap.size < w28.heap.size := by omega
  have hl1_w28 : w6.heap.size < w28.heap.size := by omega
  have hl2_w28 : w9.heap.size < w28.heap.size := by omega
  have hl3_w28 : w16.heap.size < w28.heap.size := by omega
  have a0_w28 : w28.cell? ⟨w3.heap.size, 0, none⟩ = some (.int .i64 4) := below_cell_of hb_w28 (by first | (go_simp; done) | (refine below_cell_of (w := w27) ?_ (by first | assumption | (go_simp; done)); (repeat (first | assumption | exact Below.refl _ _ | refine below_set ?_ (by first | omega | (simp; done) | (simp; omega)) _ | refine below_drawn ?_ | refine below_drawnN ?_ _ | refine below_new ?_ _))))
  have a1_w28 : w28.cell? ⟨w3.heap.size, 1, none⟩ = some (.int .i64 15) := below_cell_of hb_w28 (by first | (go_simp; done) | (refine below_cell_of (w := w27) ?_ (by first | assumption | (go_simp; done)); (repeat (first | assumption | exact Below.refl _ _ | refine below_set ?_ (by first | omega | (simp; done) | (simp; omega)) _ | refine below_drawn ?_ | refine below_drawnN ?_ _ | refine below_new ?_ _))))
  have b0_w28 : w28.cell? ⟨w6.heap.size, 0, none⟩ = some (.int .i64 0) := below_cell_of hb_w28 (by first | (go_simp; done) | (refine below_cell_of (w := w27) ?_ (by first | assumption | (go_simp; done)); (repeat (first | assumption | exact Below.refl _ _ | refine below_set ?_ (by first | omega | (simp; done) | (simp; omega)) _ | refine below_drawn ?_ | refine below_drawnN ?_ _ | refine below_new ?_ _))))
  have b1_w28 : w28.cell? ⟨w6.heap.size, 1, none⟩ = some (.int .i64 1) := below_cell_of hb_w28 (by first | (go_simp; done) | (refine below_cell_of (w := w27) ?_ (by first | assumption | (go_simp; done)); (repeat (first | assumption | exact Below.refl _ _ | refine below_set ?_ (by first | omega | (simp; done) | (simp; omega)) _ | refine below_drawn ?_ | refine below_drawnN ?_ _ | refine below_new ?_ _))))
  have c0_w28 : w28.cell? ⟨w9.heap.size, 0, none⟩ = some (.int .i64 (-3)) := below_cell_of hb_w28 (by first | (go_simp; done) | (refine below_cell_of (w := w27) ?_ (by first | assumption | (go_simp; done)); (repeat (first | assumption | exact Below.refl _ _ | refine below_set ?_ (by first | omega | (simp; done) | (simp; omega)) _ | refine below_drawn ?_ | refine below_drawnN ?_ _ | refine below_new ?_ _))))
  have c1_w28 : w28.cell? ⟨w9.heap.size, 1, none⟩ = some (.int .i64 2) := below_cell_of hb_w28 (by first | (go_simp; done) | (refine below_cell_of (w := w27) ?_ (by first | assumption | (go_simp; done)); (repeat (first | assumption | exact Below.refl _ _ | refine below_set ?_ (by first | omega | (simp; done) | (simp; omega)) _ | refine below_drawn ?_ | refine below_drawnN ?_ _ | refine below_new ?_ _))))
  have d0_w28 : w28.cell? ⟨w16.heap.size, 0, none⟩ = some (.int .i64 (-3)) := below_cell_of hb_w28 (by first | (go_simp; done) | (refine below_cell_of (w := w27) ?_ (by first | assumption | (go_simp; done)); (repeat (first | assumption | exact Below.refl _ _ | refine below_set ?_ (by first | omega | (simp; done) | (simp; omega)) _ | refine below_drawn ?_ | refine below_drawnN ?_ _ | refine below_new ?_ _))))
  have d1_w28 : w28.cell? ⟨w16.heap.size, 1, none⟩ = some (.int .i64 2) := below_cell_of hb_w28 (by first | (go_simp; done) | (refine below_cell_of (w := w27) ?_ (by first | assumption | (go_simp; done)); (repeat (first | assumption | exact Below.refl _ _ | refine below_set ?_ (by first | omega | (simp; done) | (simp; omega)) _ | refine below_drawn ?_ | refine below_drawnN ?_ _ | refine below_new ?_ _))))
  refine hK.out _ _ ?_ (fun hHeld => ?_)
  · exact ⟨by first | assumption | (go_simp; done), by first | assumption | (go_simp; done), by first | assumption | (go_simp; done), by first | assumption | (go_simp; done), by first | assumption | (go_simp; done), by first | assumption | (go_simp; done), by first | assumption | (go_simp; done), by first | assumption | (go_simp; done), by (repeat (first | assumption | exact Below.refl _ _ | refine below_set ?_ (by first | omega | (simp; done) | (simp; omega)) _ | refine below_drawn ?_ | refine below_drawnN ?_ _ | refine below_new ?_ _))⟩
  clear hK K
  try go_simp
  refine wpAnyH_ready (rs := [60]) (by kernel_rfl) (by simp) ?_
  refine AllReadyH.cons rfl (fun K hK => ?_) AllReadyH.nil
  go_simp
  refine (valid_any 0 1 _ (by decide)).mono ?_
  rw [x10]
  rintro e w29 ⟨rfl, hb_w29⟩
  have hB_w29 : Below w.heap.size w w29 := below_on (by first | ((repeat (first | assumption | exact Below.refl _ _ | refine below_set ?_ (by first | omega | (simp; done) | (simp; omega)) _ | refine below_drawn ?_ | refine below_drawnN ?_ _ | refine below_new ?_ _)); done) | (refine below_on hB_w28 ?_; (repeat (first | assumption | exact Below.refl _ _ | refine below_set ?_ (by first | omega | (simp; done) | (simp; omega)) _ | refine below_drawn ?_ | refine below_drawnN ?_ _ | refine below_new ?_ _)))) hb_w29
  have hz_w29 := hb_w29.size
  try simp only [World.size_setCell] at hz_w29
  try simp only [World.size_drew] at hz_w29
  try simp only [World.size_drewN] at hz_w29
  try simp only [World.size_alloc] at hz_w29
  try simp only [World.size_setCell] at hz_w29
  try simp only [World.size_drew] at hz_w29
  try simp only [World.size_drewN] at hz_w29
  try simp only [World.size_alloc] at hz_w29
  have hl0_w29 : w3.heap.size < w29.heap.size := by omega
  have hl1_w29 : w6.heap.size < w29.heap.size := by omega
  have hl2_w29 : w9.heap.size < w29.heap.size := by omega
  have hl3_w29 : w16.heap.size < w29.heap.size := by omega
  have a0_w29 : w29.cell? ⟨w3.heap.size, 0, none⟩ = some (.int .i64 4) := below_cell_of hb_w29 (by first | (go_simp; done) | (refine below_cell_of (w := w28) ?_ (by first | assumption | (go_simp; done)); (repeat (first | assumption | exact Below.refl _ _ | refine below_set ?_ (by first | omega | (simp; done) | (simp; omega)) _ | refine below_drawn ?_ | refine below_drawnN ?_ _ | refine below_new ?_ _))))
  have a1_w29 : w29.cell? ⟨w3.heap.size, 1, none⟩ = some (.int .i64 15) := below_cell_of hb_w29 (by first | (go_simp; done) | (refine below_cell_of (w := w28) ?_ (by first | assumption | (go_simp; done)); (repeat (first | assumption | exact Below.refl _ _ | refine below_set ?_ (by first | omega | (simp; done) | (simp; omega)) _ | refine below_drawn ?_ | refine below_drawnN ?_ _ | refine below_new ?_ _))))
  have b0_w29 : w29.cell? ⟨w6.heap.size, 0, none⟩ = some (.int .i64 0) := below_cell_of hb_w29 (by first | (go_simp; done) | (refine below_cell_of (w := w28) ?_ (by first | assumption | (go_simp; done)); (repeat (first | assumption | exact Below.refl _ _ | refine below_set ?_ (by first | omega | (simp; done) | (simp; omega)) _ | refine below_drawn ?_ | refine below_drawnN ?_ _ | refine below_new ?_ _))))
  have b1_w29 : w29.cell? ⟨w6.heap.size, 1, none⟩ = some (.int .i64 1) := below_cell_of hb_w29 (by first | (go_simp; done) | (refine below_cell_of (w := w28) ?_ (by first | assumption | (go_simp; done)); (repeat (first | assumption | exact Below.refl _ _ | refine below_set ?_ (by first | omega | (simp; done) | (simp; omega)) _ | refine below_drawn ?_ | refine below_drawnN ?_ _ | refine below_new ?_ _))))
  have c0_w29 : w29.cell? ⟨w9.heap.size, 0, none⟩ = some (.int .i64 (-3)) := below_cell_of hb_w29 (by first | (go_simp; done) | (refine below_cell_of (w := w28) ?_ (by first | assumption | (go_simp; done)); (repeat (first | assumption | exact Below.refl _ _ | refine below_set ?_ (by first | omega | (simp; done) | (simp; omega)) _ | refine below_drawn ?_ | refine below_drawnN ?_ _ | refine below_new ?_ _))))
  have c1_w29 : w29.cell? ⟨w9.heap.size, 1, none⟩ = some (.int .i64 2) := below_cell_of hb_w29 (by first | (go_simp; done) | (refine below_cell_of (w := w28) ?_ (by first | assumption | (go_simp; done)); (repeat (first | assumption | exact Below.refl _ _ | refine below_set ?_ (by first | omega | (simp; done) | (simp; omega)) _ | refine below_drawn ?_ | refine below_drawnN ?_ _ | refine below_new ?_ _))))
  have d0_w29 : w29.cell? ⟨w16.heap.size, 0, none⟩ = some (.int .i64 (-3)) := below_cell_of hb_w29 (by first | (go_simp; done) | (refine below_cell_of (w := w28) ?_ (by first | assumption | (go_simp; done)); (repeat (first | assumption | exact Below.refl _ _ | refine below_set ?_ (by first | omega | (simp; done) | (simp; omega)) _ | refine below_drawn ?_ | refine below_drawnN ?_ _ | refine below_new ?_ _))))
  have d1_w29 : w29.cell? ⟨w16.heap.size, 1, none⟩ = some (.int .i64 2) := below_cell_of hb_w29 (by first | (go_simp; done) | (refine below_cell_of (w := w28) ?_ (by first | assumption | (go_simp; done)); (repeat (first | assumption | exact Below.refl _ _ | refine below_set ?_ (by first | omega | (simp; done) | (simp; omega)) _ | refine below_drawn ?_ | refine below_drawnN ?_ _ | refine below_new ?_ _))))
  refine hK.out _ _ ?_ (fun hHeld => ?_)
  · exact ⟨by first | assumption | (go_simp; done), by first | assumption | (go_simp; done), by first | assumption | (go_simp; done), by first | assumption | (go_simp; done), by first | assumption | (go_simp; done), by first | assumption | (go_simp; done), by first | assumption | (go_simp; done), by first | assumption | (go_simp; done), by (repeat (first | assumption | exact Below.refl _ _ | refine below_set ?_ (by first | omega | (simp; done) | (simp; omega)) _ | refine below_drawn ?_ | refine below_drawnN ?_ _ | refine below_new ?_ _))⟩
  clear hK K
  try go_simp
  refine wpAnyH_take (i := 61) (v := ?_) rfl (by kernel_rfl) (by kernel_rfl) (by kernel_rfl) (fun _ _ _ h => h) (Or.inl ⟨by rfl, ?_⟩) hHeld ?_
  rotate_left
  · intro wS hSw; obtain ⟨hS0, hS1, hS2, hS3, hS4, hS5, hS6, hS7, hS8⟩ := hSw; go_simp; try with_reducible rfl
  try go_simp
  refine wpAnyH_take (i := 62) (v := ?_) rfl (by kernel_rfl) (by kernel_rfl) (by kernel_rfl) (fun _ _ _ h => h) (Or.inl ⟨by rfl, ?_⟩) hHeld ?_
  rotate_left
  · intro wS hSw; obtain ⟨hS0, hS1, hS2, hS3, hS4, hS5, hS6, hS7, hS8⟩ := hSw; go_simp; try with_reducible rfl
  try go_simp
  refine wpAnyH_ready (rs := [63]) (by kernel_rfl) (by simp) ?_
  refine AllReadyH.cons rfl (fun K hK => ?_) AllReadyH.nil
  go_simp
  refine (lof_any 0 2 _).mono ?_
  rintro e w30 ⟨rfl, hb_w30⟩
  have hB_w30 : Below w.heap.size w w30 := below_on (by first | ((repeat (first | assumption | exact Below.refl _ _ | refine below_set ?_ (by first | omega | (simp; done) | (simp; omega)) _ | refine below_drawn ?_ | refine below_drawnN ?_ _ | refine below_new ?_ _)); done) | (refine below_on hB_w29 ?_; (repeat (first | assumption | exact Below.refl _ _ | refine below_set ?_ (by first | omega | (simp; done) | (simp; omega)) _ | refine below_drawn ?_ | refine below_drawnN ?_ _ | refine below_new ?_ _)))) hb_w30
  have hz_w30 := hb_w30.size
  try simp only [World.size_setCell] at hz_w30
  try simp only [World.size_drew] at hz_w30
  try simp only [World.size_drewN] at hz_w30
  try simp only [World.size_alloc] at hz_w30
  try simp only [World.size_setCell] at hz_w30
  try simp only [World.size_drew] at hz_w30
  try simp only [World.size_drewN] at hz_w30
  try simp only [World.size_alloc] at hz_w30
  have hl0_w30 : w3.heap.size < w30.heap.size := by omega
  have hl1_w30 : w6.heap.size < w30.heap.size := by omega
  have hl2_w30 : w9.heap.size < w30.heap.size := by omega
  have hl3_w30 : w16.heap.size < w30.heap.size := by omega
  have a0_w30 : w30.cell? ⟨w3.heap.size, 0, none⟩ = some (.int .i64 4) := below_cell_of hb_w30 (by first | (go_simp; done) | (refine below_cell_of (w := w29) ?_ (by first | assumption | (go_simp; done)); (repeat (first | assumption | exact Below.refl _ _ | refine below_set ?_ (by first | omega | (simp; done) | (simp; omega)) _ | refine below_drawn ?_ | refine below_drawnN ?_ _ | refine below_new ?_ _))))
  have a1_w30 : w30.cell? ⟨w3.heap.size, 1, none⟩ = some (.int .i64 15) := below_cell_of hb_w30 (by first | (go_simp; done) | (refine below_cell_of (w := w29) ?_ (by first | assumption | (go_simp; done)); (repeat (first | assumption | exact Below.refl _ _ | refine below_set ?_ (by first | omega | (simp; done) | (simp; omega)) _ | refine below_drawn ?_ | refine below_drawnN ?_ _ | refine below_new ?_ _))))
  have b0_w30 : w30.cell? ⟨w6.heap.size, 0, none⟩ = some (.int .i64 0) := below_cell_of hb_w30 (by first | (go_simp; done) | (refine below_cell_of (w := w29) ?_ (by first | assumption | (go_simp; done)); (repeat (first | assumption | exact Below.refl _ _ | refine below_set ?_ (by first | omega | (simp; done) | (simp; omega)) _ | refine below_drawn ?_ | refine below_drawnN ?_ _ | refine below_new ?_ _))))
  have b1_w30 : w30.cell? ⟨w6.heap.size, 1, none⟩ = some (.int .i64 1) := below_cell_of hb_w30 (by first | (go_simp; done) | (refine below_cell_of (w := w29) ?_ (by first | assumption | (go_simp; done)); (repeat (first | assumption | exact Below.refl _ _ | refine below_set ?_ (by first | omega | (simp; done) | (simp; omega)) _ | refine below_drawn ?_ | refine below_drawnN ?_ _ | refine below_new ?_ _))))
  have c0_w30 : w30.cell? ⟨w9.heap.size, 0, none⟩ = some (.int .i64 (-3)) := below_cell_of hb_w30 (by first | (go_simp; done) | (refine below_cell_of (w := w29) ?_ (by first | assumption | (go_simp; done)); (repeat (first | assumption | exact Below.refl _ _ | refine below_set ?_ (by first | omega | (simp; done) | (simp; omega)) _ | refine below_drawn ?_ | refine below_drawnN ?_ _ | refine below_new ?_ _))))
  have c1_w30 : w30.cell? ⟨w9.heap.size, 1, none⟩ = some (.int .i64 2) := below_cell_of hb_w30 (by first | (go_simp; done) | (refine below_cell_of (w := w29) ?_ (by first | assumption | (go_simp; done)); (repeat (first | assumption | exact Below.refl _ _ | refine below_set ?_ (by first | omega | (simp; done) | (simp; omega)) _ | refine below_drawn ?_ | refine below_drawnN ?_ _ | refine below_new ?_ _))))
  have d0_w30 : w30.cell? ⟨w16.heap.size, 0, none⟩ = some (.int .i64 (-3)) := below_cell_of hb_w30 (by first | (go_simp; done) | (refine below_cell_of (w := w29) ?_ (by first | assumption | (go_simp; done)); (repeat (first | assumption | exact Below.refl _ _ | refine below_set ?_ (by first | omega | (simp; done) | (simp; omega)) _ | refine below_drawn ?_ | refine below_drawnN ?_ _ | refine below_new ?_ _))))
  have d1_w30 : w30.cell? ⟨w16.heap.size, 1, none⟩ = some (.int .i64 2) := below_cell_of hb_w30 (by first | (go_simp; done) | (refine below_cell_of (w := w29) ?_ (by first | assumption | (go_simp; done)); (repeat (first | assumption | exact Below.refl _ _ | refine below_set ?_ (by first | omega | (simp; done) | (simp; omega)) _ | refine below_drawn ?_ | refine below_drawnN ?_ _ | refine below_new ?_ _))))
  refine hK.out _ _ ?_ (fun hHeld => ?_)
  · exact ⟨by first | assumption | (go_simp; done), by first | assumption | (go_simp; done), by first | assumption | (go_simp; done), by first | assumption | (go_simp; done), by first | assumption | (go_simp; done), by first | assumption | (go_simp; done), by first | assumption | (go_simp; done), by first | assumption | (go_simp; done), by (repeat (first | assumption | exact Below.refl _ _ | refine below_set ?_ (by first | omega | (simp; done) | (simp; omega)) _ | refine below_drawn ?_ | refine below_drawnN ?_ _ | refine below_new ?_ _))⟩
  clear hK K
  try go_simp
  refine wpAnyH_ready (rs := [64]) (by kernel_rfl) (by simp) ?_
  refine AllReadyH.cons rfl (fun K hK => ?_) AllReadyH.nil
  go_simp
  refine (valid_any 0 2 _ (by decide)).mono ?_
  rw [x11]
  rintro e w31 ⟨rfl, hb_w31⟩
  have hB_w31 : Below w.heap.size w w31 := below_on (by first | ((repeat (first | assumption | exact Below.refl _ _ | refine below_set ?_ (by first | omega | (simp; done) | (simp; omega)) _ | refine below_drawn ?_ | refine below_drawnN ?_ _ | refine below_new ?_ _)); done) | (refine below_on hB_w30 ?_; (repeat (first | assumption | exact Below.refl _ _ | refine below_set ?_ (by first | omega | (simp; done) | (simp; omega)) _ | refine below_drawn ?_ | refine below_drawnN ?_ _ | refine below_new ?_ _)))) hb_w31
  have hz_w31 := hb_w31.size
  try simp only [World.size_setCell] at hz_w31
  try simp only [World.size_drew] at hz_w31
  try simp only [World.size_drewN] at hz_w31
  try simp only [World.size_alloc] at hz_w31
  try simp only [World.size_setCell] at hz_w31
  try simp only [World.size_drew] at hz_w31
  try simp only [World.size_drewN] at hz_w31
  try simp only [World.size_alloc] at hz_w31
  have hl0_w31 : w3.heap.size < w31.heap.size := by omega
  have hl1_w31 : w6.heap.size < w31.heap.size := by omega
  have hl2_w31 : w9.heap.size < w31.heap.size := by omega
  have hl3_w31 : w16.heap.size < w31.heap.size := by omega
  have a0_w31 : w31.cell? ⟨w3.heap.size, 0, none⟩ = some (.int .i64 4) := below_cell_of hb_w31 (by first | (go_simp; done) | (refine below_cell_of (w := w30) ?_ (by first | assumption | (go_simp; done)); (repeat (first | assumption | exact Below.refl _ _ | refine below_set ?_ (by first | omega | (simp; done) | (simp; omega)) _ | refine below_drawn ?_ | refine below_drawnN ?_ _ | refine below_new ?_ _))))
  have a1_w31 : w31.cell? ⟨w3.heap.size, 1, none⟩ = some (.int .i64 15) := below_cell_of hb_w31 (by first | (go_simp; done) | (refine below_cell_of (w := w30) ?_ (by first | assumption | (go_simp; done)); (repeat (first | assumption | exact Below.refl _ _ | refine below_set ?_ (by first | omega | (simp; done) | (simp; omega)) _ | refine below_drawn ?_ | refine below_drawnN ?_ _ | refine below_new ?_ _))))
  have b0_w31 : w31.cell? ⟨w6.heap.size, 0, none⟩ = some (.int .i64 0) := below_cell_of hb_w31 (by first | (go_simp; done) | (refine below_cell_of (w := w30) ?_ (by first | assumption | (go_simp; done)); (repeat (first | assumption | exact Below.refl _ _ | refine below_set ?_ (by first | omega | (simp; done) | (simp; omega)) _ | refine below_drawn ?_ | refine below_drawnN ?_ _ | refine below_new ?_ _))))
  have b1_w31 : w31.cell? ⟨w6.heap.size, 1, none⟩ = some (.int .i64 1) := below_cell_of hb_w31 (by first | (go_simp; done) | (refine below_cell_of (w := w30) ?_ (by first | assumption | (go_simp; done)); (repeat (first | assumption | exact Below.refl _ _ | refine below_set ?_ (by first | omega | (simp; done) | (simp; omega)) _ | refine below_drawn ?_ | refine below_drawnN ?_ _ | refine below_new ?_ _))))
  have c0_w31 : w31.cell? ⟨w9.heap.size, 0, none⟩ = some (.int .i64 (-3)) := below_cell_of hb_w31 (by first | (go_simp; done) | (refine below_cell_of (w := w30) ?_ (by first | assumption | (go_simp; done)); (repeat (first | assumption | exact Below.refl _ _ | refine below_set ?_ (by first | omega | (simp; done) | (simp; omega)) _ | refine below_drawn ?_ | refine below_drawnN ?_ _ | refine below_new ?_ _))))
  have c1_w31 : w31.cell? ⟨w9.heap.size, 1, none⟩ = some (.int .i64 2) := below_cell_of hb_w31 (by first | (go_simp; done) | (refine below_cell_of (w := w30) ?_ (by first | assumption | (go_simp; done)); (repeat (first | assumption | exact Below.refl _ _ | refine below_set ?_ (by first | omega | (simp; done) | (simp; omega)) _ | refine below_drawn ?_ | refine below_drawnN ?_ _ | refine below_new ?_ _))))
  have d0_w31 : w31.cell? ⟨w16.heap.size, 0, none⟩ = some (.int .i64 (-3)) := below_cell_of hb_w31 (by first | (go_simp; done) | (refine below_cell_of (w := w30) ?_ (by first | assumption | (go_simp; done)); (repeat (first | assumption | exact Below.refl _ _ | refine below_set ?_ (by first | omega | (simp; done) | (simp; omega)) _ | refine below_drawn ?_ | refine below_drawnN ?_ _ | refine below_new ?_ _))))
  have d1_w31 : w31.cell? ⟨w16.heap.size, 1, none⟩ = some (.int .i64 2) := below_cell_of hb_w31 (by first | (go_simp; done) | (refine below_cell_of (w := w30) ?_ (by first | assumption | (go_simp; done)); (repeat (first | assumption | exact Below.refl _ _ | refine below_set ?_ (by first | omega | (simp; done) | (simp; omega)) _ | refine below_drawn ?_ | refine below_drawnN ?_ _ | refine below_new ?_ _))))
  refine hK.out _ _ ?_ (fun hHeld => ?_)
  · exact ⟨by first | assumption | (go_simp; done), by first | assumption | (go_simp; done), by first | assumption | (go_simp; done), by first | assumption | (go_simp; done), by first | assumption | (go_simp; done), by first | assumption | (go_simp; done), by first | assumption | (go_simp; done), by first | assumption | (go_simp; done), by (repeat (first | assumption | exact Below.refl _ _ | refine below_set ?_ (by first | omega | (simp; done) | (simp; omega)) _ | refine below_drawn ?_ | refine below_drawnN ?_ _ | refine below_new ?_ _))⟩
  clear hK K
  try go_simp
  refine wpAnyH_take (i := 65) (v := ?_) rfl (by kernel_rfl) (by kernel_rfl) (by kernel_rfl) (fun _ _ _ h => h) (Or.inl ⟨by rfl, ?_⟩) hHeld ?_
  rotate_left
  · intro wS hSw; obtain ⟨hS0, hS1, hS2, hS3, hS4, hS5, hS6, hS7, hS8⟩ := hSw; go_simp; try with_reducible rfl
  try go_simp
  refine wpAnyH_take (i := 66) (v := ?_) rfl (by kernel_rfl) (by kernel_rfl) (by kernel_rfl) (fun _ _ _ h => h) (Or.inl ⟨by rfl, ?_⟩) hHeld ?_
  rotate_left
  · intro wS hSw; obtain ⟨hS0, hS1, hS2, hS3, hS4, hS5, hS6, hS7, hS8⟩ := hSw; go_simp; try with_reducible rfl
  try go_simp
  refine wpAnyH_take (i := 67) (v := ?_) rfl (by kernel_rfl) (by kernel_rfl) (by kernel_rfl) (fun _ _ _ h => h) (Or.inl ⟨by rfl, ?_⟩) hHeld ?_
  rotate_left
  · intro wS hSw; obtain ⟨hS0, hS1, hS2, hS3, hS4, hS5, hS6, hS7, hS8⟩ := hSw; go_simp; try with_reducible rfl
  try go_simp
  refine wpAnyH_ready (rs := [68]) (by kernel_rfl) (by simp) ?_
  refine AllReadyH.cons rfl (fun K hK => ?_) AllReadyH.nil
  go_simp
  refine (lof_any 1 0 _).mono ?_
  rintro e w32 ⟨rfl, hb_w32⟩
  have hB_w32 : Below w.heap.size w w32 := below_on (by first | ((repeat (first | assumption | exact Below.refl _ _ | refine below_set ?_ (by first | omega | (simp; done) | (simp; omega)) _ | refine below_drawn ?_ | refine below_drawnN ?_ _ | refine below_new ?_ _)); done) | (refine below_on hB_w31 ?_; (repeat (first | assumption | exact Below.refl _ _ | refine below_set ?_ (by first | omega | (simp; done) | (simp; omega)) _ | refine below_drawn ?_ | refine below_drawnN ?_ _ | refine below_new ?_ _)))) hb_w32
  have hz_w32 := hb_w32.size
  try simp only [World.size_setCell] at hz_w32
  try simp only [World.size_drew] at hz_w32
  try simp only [World.size_drewN] at hz_w32
  try simp only [World.size_alloc] at hz_w32
  try simp only [World.size_setCell] at hz_w32
  try simp only [World.size_drew] at hz_w32
  try simp only [World.size_drewN] at hz_w32
  try simp only [World.size_alloc] at hz_w32
  have hl0_w32 : w3.heap.size < w32.heap.size := by omega
  have hl1_w32 : w6.heap.size < w32.heap.size := by omega
  have hl2_w32 : w9.heap.size < w32.heap.size := by omega
  have hl3_w32 : w16.heap.size < w32.heap.size := by omega
  have a0_w32 : w32.cell? ⟨w3.heap.size, 0, none⟩ = some (.int .i64 4) := below_cell_of hb_w32 (by first | (go_simp; done) | (refine below_cell_of (w := w31) ?_ (by first | assumption | (go_simp; done)); (repeat (first | assumption | exact Below.refl _ _ | refine below_set ?_ (by first | omega | (simp; done) | (simp; omega)) _ | refine below_drawn ?_ | refine below_drawnN ?_ _ | refine below_new ?_ _))))
  have a1_w32 : w32.cell? ⟨w3.heap.size, 1, none⟩ = some (.int .i64 15) := below_cell_of hb_w32 (by first | (go_simp; done) | (refine below_cell_of (w := w31) ?_ (by first | assumption | (go_simp; done)); (repeat (first | assumption | exact Below.refl _ _ | refine below_set ?_ (by first | omega | (simp; done) | (simp; omega)) _ | refine below_drawn ?_ | refine below_drawnN ?_ _ | refine below_new ?_ _))))
  have b0_w32 : w32.cell? ⟨w6.heap.size, 0, none⟩ = some (.int .i64 0) := below_cell_of hb_w32 (by first | (go_simp; done) | (refine below_cell_of (w := w31) ?_ (by first | assumption | (go_simp; done)); (repeat (first | assumption | exact Below.refl _ _ | refine below_set ?_ (by first | omega | (simp; done) | (simp; omega)) _ | refine below_drawn ?_ | refine below_drawnN ?_ _ | refine below_new ?_ _))))
  have b1_w32 : w32.cell? ⟨w6.heap.size, 1, none⟩ = some (.int .i64 1) := below_cell_of hb_w32 (by first | (go_simp; done) | (refine below_cell_of (w := w31) ?_ (by first | assumption | (go_simp; done)); (repeat (first | assumption | exact Below.refl _ _ | refine below_set ?_ (by first | omega | (simp; done) | (simp; omega)) _ | refine below_drawn ?_ | refine below_drawnN ?_ _ | refine below_new ?_ _))))
  have c0_w32 : w32.cell? ⟨w9.heap.size, 0, none⟩ = some (.int .i64 (-3)) := below_cell_of hb_w32 (by first | (go_simp; done) | (refine below_cell_of (w := w31) ?_ (by first | assumption | (go_simp; done)); (repeat (first | assumption | exact Below.refl _ _ | refine below_set ?_ (by first | omega | (simp; done) | (simp; omega)) _ | refine below_drawn ?_ | refine below_drawnN ?_ _ | refine below_new ?_ _))))
  have c1_w32 : w32.cell? ⟨w9.heap.size, 1, none⟩ = some (.int .i64 2) := below_cell_of hb_w32 (by first | (go_simp; done) | (refine below_cell_of (w := w31) ?_ (by first | assumption | (go_simp; done)); (repeat (first | assumption | exact Below.refl _ _ | refine below_set ?_ (by first | omega | (simp; done) | (simp; omega)) _ | refine below_drawn ?_ | refine below_drawnN ?_ _ | refine below_new ?_ _))))
  have d0_w32 : w32.cell? ⟨w16.heap.size, 0, none⟩ = some (.int .i64 (-3)) := below_cell_of hb_w32 (by first | (go_simp; done) | (refine below_cell_of (w := w31) ?_ (by first | assumption | (go_simp; done)); (repeat (first | assumption | exact Below.refl _ _ | refine below_set ?_ (by first | omega | (simp; done) | (simp; omega)) _ | refine below_drawn ?_ | refine below_drawnN ?_ _ | refine below_new ?_ _))))
  have d1_w32 : w32.cell? ⟨w16.heap.size, 1, none⟩ = some (.int .i64 2) := below_cell_of hb_w32 (by first | (go_simp; done) | (refine below_cell_of (w := w31) ?_ (by first | assumption | (go_simp; done)); (repeat (first | assumption | exact Below.refl _ _ | refine below_set ?_ (by first | omega | (simp; done) | (simp; omega)) _ | refine below_drawn ?_ | refine below_drawnN ?_ _ | refine below_new ?_ _))))
  refine hK.out _ _ ?_ (fun hHeld => ?_)
  · exact ⟨by first | assumption | (go_simp; done), by first | assumption | (go_simp; done), by first | assumption | (go_simp; done), by first | assumption | (go_simp; done), by first | assumption | (go_simp; done), by first | assumption | (go_simp; done), by first | assumption | (go_simp; done), by first | assumption | (go_simp; done), by (repeat (first | assumption | exact Below.refl _ _ | refine below_set ?_ (by first | omega | (simp; done) | (simp; omega)) _ | refine below_drawn ?_ | refine below_drawnN ?_ _ | refine below_new ?_ _))⟩
  clear hK K
  try go_simp
  refine wpAnyH_ready (rs := [69]) (by kernel_rfl) (by simp) ?_
  refine AllReadyH.cons rfl (fun K hK => ?_) AllReadyH.nil
  go_simp
  refine (valid_any 1 0 _ (by decide)).mono ?_
  rw [x12]
  rintro e w33 ⟨rfl, hb_w33⟩
  have hB_w33 : Below w.heap.size w w33 := below_on (by first | ((repeat (first | assumption | exact Below.refl _ _ | refine below_set ?_ (by first | omega | (simp; done) | (simp; omega)) _ | refine below_drawn ?_ | refine below_drawnN ?_ _ | refine below_new ?_ _)); done) | (refine below_on hB_w32 ?_; (repeat (first | assumption | exact Below.refl _ _ | refine below_set ?_ (by first | omega | (simp; done) | (simp; omega)) _ | refine below_drawn ?_ | refine below_drawnN ?_ _ | refine below_new ?_ _)))) hb_w33
  have hz_w33 := hb_w33.size
  try simp only [World.size_setCell] at hz_w33
  try simp only [World.size_drew] at hz_w33
  try simp only [World.size_drewN] at hz_w33
  try simp only [World.size_alloc] at hz_w33
  try simp only [World.size_setCell] at hz_w33
  try simp only [World.size_drew] at hz_w33
  try simp only [World.size_drewN] at hz_w33
  try simp only [World.size_alloc] at hz_w33
  have hl0_w33 : w3.heap.size < w33.heap.size := by omega
  have hl1_w33 : w6.heap.size < w33.heap.size := by omega
  have hl2_w33 : w9.heap.size < w33.heap.size := by omega
  have hl3_w33 : w16.heap.size < w33.heap.size := by omega
  have a0_w33 : w33.cell? ⟨w3.heap.size, 0, none⟩ = some (.int .i64 4) := below_cell_of hb_w33 (by first | (go_simp; done) | (refine below_cell_of (w := w32) ?_ (by first | assumption | (go_simp; done)); (repeat (first | assumption | exact Below.refl _ _ | refine below_set ?_ (by first | omega | (simp; done) | (simp; omega)) _ | refine below_drawn ?_ | refine below_drawnN ?_ _ | refine below_new ?_ _))))
  have a1_w33 : w33.cell? ⟨w3.heap.size, 1, none⟩ = some (.int .i64 15) := below_cell_of hb_w33 (by first | (go_simp; done) | (refine below_cell_of (w := w32) ?_ (by first | assumption | (go_simp; done)); (repeat (first | assumption | exact Below.refl _ _ | refine below_set ?_ (by first | omega | (simp; done) | (simp; omega)) _ | refine below_drawn ?_ | refine below_drawnN ?_ _ | refine below_new ?_ _))))
  have b0_w33 : w33.cell? ⟨w6.heap.size, 0, none⟩ = some (.int .i64 0) := below_cell_of hb_w33 (by first | (go_simp; done) | (refine below_cell_of (w := w32) ?_ (by first | assumption | (go_simp; done)); (repeat (first | assumption | exact Below.refl _ _ | refine below_set ?_ (by first | omega | (simp; done) | (simp; omega)) _ | refine below_drawn ?_ | refine below_drawnN ?_ _ | refine below_new ?_ _))))
  have b1_w33 : w33.cell? ⟨w6.heap.size, 1, none⟩ = some (.int .i64 1) := below_cell_of hb_w33 (by first | (go_simp; done) | (refine below_cell_of (w := w32) ?_ (by first | assumption | (go_simp; done)); (repeat (first | assumption | exact Below.refl _ _ | refine below_set ?_ (by first | omega | (simp; done) | (simp; omega)) _ | refine below_drawn ?_ | refine below_drawnN ?_ _ | refine below_new ?_ _))))
  have c0_w33 : w33.cell? ⟨w9.heap.size, 0, none⟩ = some (.int .i64 (-3)) := below_cell_of hb_w33 (by first | (go_simp; done) | (refine below_cell_of (w := w32) ?_ (by first | assumption | (go_simp; done)); (repeat (first | assumption | exact Below.refl _ _ | refine below_set ?_ (by first | omega | (simp; done) | (simp; omega)) _ | refine below_drawn ?_ | refine below_drawnN ?_ _ | refine below_new ?_ _))))
  have c1_w33 : w33.cell? ⟨w9.heap.size, 1, none⟩ = some (.int .i64 2) := below_cell_of hb_w33 (by first | (go_simp; done) | (refine below_cell_of (w := w32) ?_ (by first | assumption | (go_simp; done)); (repeat (first | assumption | exact Below.refl _ _ | refine below_set ?_ (by first | omega | (simp; done) | (simp; omega)) _ | refine below_drawn ?_ | refine below_drawnN ?_ _ | refine below_new ?_ _))))
  have d0_w33 : w33.cell? ⟨w16.heap.size, 0, none⟩ = some (.int .i64 (-3)) := below_cell_of hb_w33 (by first | (go_simp; done) | (refine below_cell_of (w := w32) ?_ (by first | assumption | (go_simp; done)); (repeat (first | assumption | exact Below.refl _ _ | refine below_set ?_ (by first | omega | (simp; done) | (simp; omega)) _ | refine below_drawn ?_ | refine below_drawnN ?_ _ | refine below_new ?_ _))))
  have d1_w33 : w33.cell? ⟨w16.heap.size, 1, none⟩ = some (.int .i64 2) := below_cell_of hb_w33 (by first | (go_simp; done) | (refine below_cell_of (w := w32) ?_ (by first | assumption | (go_simp; done)); (repeat (first | assumption | exact Below.refl _ _ | refine below_set ?_ (by first | omega | (simp; done) | (simp; omega)) _ | refine below_drawn ?_ | refine below_drawnN ?_ _ | refine below_new ?_ _))))
  refine hK.out _ _ ?_ (fun hHeld => ?_)
  · exact ⟨by first | assumption | (go_simp; done), by first | assumption | (go_simp; done), by first | assumption | (go_simp; done), by first | assumption | (go_simp; done), by first | assumption | (go_simp; done), by first | assumption | (go_simp; done), by first | assumption | (go_simp; done), by first | assumption | (go_simp; done), by (repeat (first | assumption | exact Below.refl _ _ | refine below_set ?_ (by first | omega | (simp; done) | (simp; omega)) _ | refine below_drawn ?_ | refine below_drawnN ?_ _ | refine below_new ?_ _))⟩
  clear hK K
  try go_simp
  refine wpAnyH_take (i := 70) (v := ?_) rfl (by kernel_rfl) (by kernel_rfl) (by kernel_rfl) (fun _ _ _ h => h) (Or.inl ⟨by rfl, ?_⟩) hHeld ?_
  rotate_left
  · intro wS hSw; obtain ⟨hS0, hS1, hS2, hS3, hS4, hS5, hS6, hS7, hS8⟩ := hSw; go_simp; try with_reducible rfl
  try go_simp
  refine wpAnyH_take (i := 71) (v := ?_) rfl (by kernel_rfl) (by kernel_rfl) (by kernel_rfl) (fun _ _ _ h => h) (Or.inl ⟨by rfl, ?_⟩) hHeld ?_
  rotate_left
  · intro wS hSw; obtain ⟨hS0, hS1, hS2, hS3, hS4, hS5, hS6, hS7, hS8⟩ := hSw; go_simp; try with_reducible rfl
  try go_simp
  refine wpAnyH_take (i := 72) (v := ?_) rfl (by kernel_rfl) (by kernel_rfl) (by kernel_rfl) (fun _ _ _ h => h) (Or.inl ⟨by rfl, ?_⟩) hHeld ?_
  rotate_left
  · intro wS hSw; obtain ⟨hS0, hS1, hS2, hS3, hS4, hS5, hS6, hS7, hS8⟩ := hSw; go_simp; try with_reducible rfl
  try go_simp
  refine wpAnyH_done (by kernel_rfl) ?_ _
  go_wp2
  go_ret
  exact ⟨rfl, hB_w33⟩
end Go.Proofs.Ytjnjokkhkfdaiaa
