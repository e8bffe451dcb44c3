/- The statement RatioOrder: it returns true, whatever the input, and leaves what was in memory alone. -/
import Derived.Test.YtjnjokkhkfdaiaaRatHead
import Derived.Deep.Cut
import Derived.Deep.CutRange
import Derived.Deep.DeepCutAuto
namespace Go.Proofs.Ytjnjokkhkfdaiaa
open Go.RowKit

set_option maxHeartbeats 4000000 in
set_option maxRecDepth 100000 in
theorem order_bad1 (an ad bn bd cn cd : Int) (w : World) (ha : Rt.valid an ad = false) : Calls Try.prog 7 #[.agg #[.int .i64 an, .int .i64 ad], .agg #[.int .i64 bn, .int .i64 bd], .agg #[.int .i64 cn, .int .i64 cd]] w fun e w' => e = .returned (.bool true) ∧ Below w.heap.size w w' := by
  have HA := Lib.hid ha
  clear ha
  go_enter Try.func7, Try.ntmps7
  go_wp2_with fail
  refine (head_ok _).mono ?_
  rintro e w1 ⟨rfl, hb_w1⟩
  have hB_w1 : Below w.heap.size w w1 := below_on (by (repeat (first | assumption | exact Below.refl _ _ | refine below_set ?_ (by first | omega | (simp; done) | (simp; omega)) _ | refine below_drawn ?_ | refine below_drawnN ?_ _ | refine below_new ?_ _))) hb_w1
  have hz_w1 := hb_w1.size
  try simp only [World.size_setCell] at hz_w1
  try simp only [World.size_drew] at hz_w1
  try simp only [World.size_drewN] at hz_w1
  try simp only [World.size_alloc] at hz_w1
  try simp only [World.size_setCell] at hz_w1
  try simp only [World.size_drew] at hz_w1
  try simp only [World.size_drewN] at hz_w1
  try simp only [World.size_alloc] at hz_w1
  have hl0_w1 : w.heap.size < w1.heap.size := by omega
  have hl1_w1 : w.heap.size + 1 < w1.heap.size := by omega
  have hl2_w1 : w.heap.size + 2 < w1.heap.size := by omega
  have a0_w1 : w1.cell? ⟨w.heap.size, 0, none⟩ = some (.int .i64 an) := below_cell_of hb_w1 (by first | (go_simp; done) | (refine below_cell_of (w := w) ?_ (by first | assumption | (go_simp; done)); (repeat (first | assumption | exact Below.refl _ _ | refine below_set ?_ (by first | omega | (simp; done) | (simp; omega)) _ | refine below_drawn ?_ | refine below_drawnN ?_ _ | refine below_new ?_ _))))
  have a1_w1 : w1.cell? ⟨w.heap.size, 1, none⟩ = some (.int .i64 ad) := below_cell_of hb_w1 (by first | (go_simp; done) | (refine below_cell_of (w := w) ?_ (by first | assumption | (go_simp; done)); (repeat (first | assumption | exact Below.refl _ _ | refine below_set ?_ (by first | omega | (simp; done) | (simp; omega)) _ | refine below_drawn ?_ | refine below_drawnN ?_ _ | refine below_new ?_ _))))
  have b0_w1 : w1.cell? ⟨w.heap.size + 1, 0, none⟩ = some (.int .i64 bn) := below_cell_of hb_w1 (by first | (go_simp; done) | (refine below_cell_of (w := w) ?_ (by first | assumption | (go_simp; done)); (repeat (first | assumption | exact Below.refl _ _ | refine below_set ?_ (by first | omega | (simp; done) | (simp; omega)) _ | refine below_drawn ?_ | refine below_drawnN ?_ _ | refine below_new ?_ _))))
  have b1_w1 : w1.cell? ⟨w.heap.size + 1, 1, none⟩ = some (.int .i64 bd) := below_cell_of hb_w1 (by first | (go_simp; done) | (refine below_cell_of (w := w) ?_ (by first | assumption | (go_simp; done)); (repeat (first | assumption | exact Below.refl _ _ | refine below_set ?_ (by first | omega | (simp; done) | (simp; omega)) _ | refine below_drawn ?_ | refine below_drawnN ?_ _ | refine below_new ?_ _))))
  have c0_w1 : w1.cell? ⟨w.heap.size + 2, 0, none⟩ = some (.int .i64 cn) := below_cell_of hb_w1 (by first | (go_simp; done) | (refine below_cell_of (w := w) ?_ (by first | assumption | (go_simp; done)); (repeat (first | assumption | exact Below.refl _ _ | refine below_set ?_ (by first | omega | (simp; done) | (simp; omega)) _ | refine below_drawn ?_ | refine below_drawnN ?_ _ | refine below_new ?_ _))))
  have c1_w1 : w1.cell? ⟨w.heap.size + 2, 1, none⟩ = some (.int .i64 cd) := below_cell_of hb_w1 (by first | (go_simp; done) | (refine below_cell_of (w := w) ?_ (by first | assumption | (go_simp; done)); (repeat (first | assumption | exact Below.refl _ _ | refine below_set ?_ (by first | omega | (simp; done) | (simp; omega)) _ | refine below_drawn ?_ | refine below_drawnN ?_ _ | refine below_new ?_ _))))
  go_wp2_with fail
  refine (rvalid_any an ad _).mono ?_
  rw [HA.out]
  rintro e w2 ⟨rfl, hb_w2⟩
  have hB_w2 : Below w.heap.size w w2 := below_on (by first | ((repeat (first | assumption | exact Below.refl _ _ | refine below_set ?_ (by first | omega | (simp; done) | (simp; omega)) _ | refine below_drawn ?_ | refine below_drawnN ?_ _ | refine below_new ?_ _)); done) | (refine below_on hB_w1 ?_; (repeat (first | assumption | exact Below.refl _ _ | refine below_set ?_ (by first | omega | (simp; done) | (simp; omega)) _ | refine below_drawn ?_ | refine below_drawnN ?_ _ | refine below_new ?_ _)))) hb_w2
  have hz_w2 := hb_w2.size
  try simp only [World.size_setCell] at hz_w2
  try simp only [World.size_drew] at hz_w2
  try simp only [World.size_drewN] at hz_w2
  try simp only [World.size_alloc] at hz_w2
  try simp only [World.size_setCell] at hz_w2
  try simp only [World.size_drew] at hz_w2
  try simp only [World.size_drewN] at hz_w2
  try simp only [World.size_alloc] at hz_w2
  have hl0_w2 : w.heap.size < w2.heap.size := by omega
  have hl1_w2 : w.heap.size + 1 < w2.heap.size := by omega
  have hl2_w2 : w.heap.size + 2 < w2.heap.size := by omega
  have a0_w2 : w2.cell? ⟨w.heap.size, 0, none⟩ = some (.int .i64 an) := below_cell_of hb_w2 (by first | (go_simp; done) | (refine below_cell_of (w := w1) ?_ (by first | assumption | (go_simp; done)); (repeat (first | assumption | exact Below.refl _ _ | refine below_set ?_ (by first | omega | (simp; done) | (simp; omega)) _ | refine below_drawn ?_ | refine below_drawnN ?_ _ | refine below_new ?_ _))))
  have a1_w2 : w2.cell? ⟨w.heap.size, 1, none⟩ = some (.int .i64 ad) := below_cell_of hb_w2 (by first | (go_simp; done) | (refine below_cell_of (w := w1) ?_ (by first | assumption | (go_simp; done)); (repeat (first | assumption | exact Below.refl _ _ | refine below_set ?_ (by first | omega | (simp; done) | (simp; omega)) _ | refine below_drawn ?_ | refine below_drawnN ?_ _ | refine below_new ?_ _))))
  have b0_w2 : w2.cell? ⟨w.heap.size + 1, 0, none⟩ = some (.int .i64 bn) := below_cell_of hb_w2 (by first | (go_simp; done) | (refine below_cell_of (w := w1) ?_ (by first | assumption | (go_simp; done)); (repeat (first | assumption | exact Below.refl _ _ | refine below_set ?_ (by first | omega | (simp; done) | (simp; omega)) _ | refine below_drawn ?_ | refine below_drawnN ?_ _ | refine below_new ?_ _))))
  have b1_w2 : w2.cell? ⟨w.heap.size + 1, 1, none⟩ = some (.int .i64 bd) := below_cell_of hb_w2 (by first | (go_simp; done) | (refine below_cell_of (w := w1) ?_ (by first | assumption | (go_simp; done)); (repeat (first | assumption | exact Below.refl _ _ | refine below_set ?_ (by first | omega | (simp; done) | (simp; omega)) _ | refine below_drawn ?_ | refine below_drawnN ?_ _ | refine below_new ?_ _))))
  have c0_w2 : w2.cell? ⟨w.heap.size + 2, 0, none⟩ = some (.int .i64 cn) := below_cell_of hb_w2 (by first | (go_simp; done) | (refine below_cell_of (w := w1) ?_ (by first | assumption | (go_simp; done)); (repeat (first | assumption | exact Below.refl _ _ | refine below_set ?_ (by first | omega | (simp; done) | (simp; omega)) _ | refine below_drawn ?_ | refine below_drawnN ?_ _ | refine below_new ?_ _))))
  have c1_w2 : w2.cell? ⟨w.heap.size + 2, 1, none⟩ = some (.int .i64 cd) := below_cell_of hb_w2 (by first | (go_simp; done) | (refine below_cell_of (w := w1) ?_ (by first | assumption | (go_simp; done)); (repeat (first | assumption | exact Below.refl _ _ | refine below_set ?_ (by first | omega | (simp; done) | (simp; omega)) _ | refine below_drawn ?_ | refine below_drawnN ?_ _ | refine below_new ?_ _))))
  go_wp2
  go_ret
  exact ⟨rfl, hB_w2⟩
set_option maxHeartbeats 4000000 in
set_option maxRecDepth 100000 in
theorem order_bad2 (an ad bn bd cn cd : Int) (w : World) (ha : Rt.valid an ad = true) (hb : Rt.valid bn bd = false) : Calls Try.prog 7 #[.agg #[.int .i64 an, .int .i64 ad], .agg #[.int .i64 bn, .int .i64 bd], .agg #[.int .i64 cn, .int .i64 cd]] w fun e w' => e = .returned (.bool true) ∧ Below w.heap.size w w' := by
  have HA := Lib.hid ha
  have HB := Lib.hid hb
  clear ha hb
  go_enter Try.func7, Try.ntmps7
  go_wp2_with fail
  refine (head_ok _).mono ?_
  rintro e w1 ⟨rfl, hb_w1⟩
  have hB_w1 : Below w.heap.size w w1 := below_on (by (repeat (first | assumption | exact Below.refl _ _ | refine below_set ?_ (by first | omega | (simp; done) | (simp; omega)) _ | refine below_drawn ?_ | refine below_drawnN ?_ _ | refine below_new ?_ _))) hb_w1
  have hz_w1 := hb_w1.size
  try simp only [World.size_setCell] at hz_w1
  try simp only [World.size_drew] at hz_w1
  try simp only [World.size_drewN] at hz_w1
  try simp only [World.size_alloc] at hz_w1
  try simp only [World.size_setCell] at hz_w1
  try simp only [World.size_drew] at hz_w1
  try simp only [World.size_drewN] at hz_w1
  try simp only [World.size_alloc] at hz_w1
  have hl0_w1 : w.heap.size < w1.heap.size := by omega
  have hl1_w1 : w.heap.size + 1 < w1.heap.size := by omega
  have hl2_w1 : w.heap.size + 2 < w1.heap.size := by omega
  have a0_w1 : w1.cell? ⟨w.heap.size, 0, none⟩ = some (.int .i64 an) := below_cell_of hb_w1 (by first | (go_simp; done) | (refine below_cell_of (w := w) ?_ (by first | assumption | (go_simp; done)); (repeat (first | assumption | exact Below.refl _ _ | refine below_set ?_ (by first | omega | (simp; done) | (simp; omega)) _ | refine below_drawn ?_ | refine below_drawnN ?_ _ | refine below_new ?_ _))))
  have a1_w1 : w1.cell? ⟨w.heap.size, 1, none⟩ = some (.int .i64 ad) := below_cell_of hb_w1 (by first | (go_simp; done) | (refine below_cell_of (w := w) ?_ (by first | assumption | (go_simp; done)); (repeat (first | assumption | exact Below.refl _ _ | refine below_set ?_ (by first | omega | (simp; done) | (simp; omega)) _ | refine below_drawn ?_ | refine below_drawnN ?_ _ | refine below_new ?_ _))))
  have b0_w1 : w1.cell? ⟨w.heap.size + 1, 0, none⟩ = some (.int .i64 bn) := below_cell_of hb_w1 (by first | (go_simp; done) | (refine below_cell_of (w := w) ?_ (by first | assumption | (go_simp; done)); (repeat (first | assumption | exact Below.refl _ _ | refine below_set ?_ (by first | omega | (simp; done) | (simp; omega)) _ | refine below_drawn ?_ | refine below_drawnN ?_ _ | refine below_new ?_ _))))
  have b1_w1 : w1.cell? ⟨w.heap.size + 1, 1, none⟩ = some (.int .i64 bd) := below_cell_of hb_w1 (by first | (go_simp; done) | (refine below_cell_of (w := w) ?_ (by first | assumption | (go_simp; done)); (repeat (first | assumption | exact Below.refl _ _ | refine below_set ?_ (by first | omega | (simp; done) | (simp; omega)) _ | refine below_drawn ?_ | refine below_drawnN ?_ _ | refine below_new ?_ _))))
  have c0_w1 : w1.cell? ⟨w.heap.size + 2, 0, none⟩ = some (.int .i64 cn) := below_cell_of hb_w1 (by first | (go_simp; done) | (refine below_cell_of (w := w) ?_ (by first | assumption | (go_simp; done)); (repeat (first | assumption | exact Below.refl _ _ | refine below_set ?_ (by first | omega | (simp; done) | (simp; omega)) _ | refine below_drawn ?_ | refine below_drawnN ?_ _ | refine below_new ?_ _))))
  have c1_w1 : w1.cell? ⟨w.heap.size + 2, 1, none⟩ = some (.int .i64 cd) := below_cell_of hb_w1 (by first | (go_simp; done) | (refine below_cell_of (w := w) ?_ (by first | assumption | (go_simp; done)); (repeat (first | assumption | exact Below.refl _ _ | refine below_set ?_ (by first | omega | (simp; done) | (simp; omega)) _ | refine below_drawn ?_ | refine below_drawnN ?_ _ | refine below_new ?_ _))))
  go_wp2_with fail
  refine (rvalid_any an ad _).mono ?_
  rw [HA.out]
  rintro e w2 ⟨rfl, hb_w2⟩
  have hB_w2 : Below w.heap.size w w2 := below_on (by first | ((repeat (first | assumption | exact Below.refl _ _ | refine below_set ?_ (by first | omega | (simp; done) | (simp; omega)) _ | refine below_drawn ?_ | refine below_drawnN ?_ _ | refine below_new ?_ _)); done) | (refine below_on hB_w1 ?_; (repeat (first | assumption | exact Below.refl _ _ | refine below_set ?_ (by first | omega | (simp; done) | (simp; omega)) _ | refine below_drawn ?_ | refine below_drawnN ?_ _ | refine below_new ?_ _)))) hb_w2
  have hz_w2 := hb_w2.size
  try simp only [World.size_setCell] at hz_w2
  try simp only [World.size_drew] at hz_w2
  try simp only [World.size_drewN] at hz_w2
  try simp only [World.size_alloc] at hz_w2
  try simp only [World.size_setCell] at hz_w2
  try simp only [World.size_drew] at hz_w2
  try simp only [World.size_drewN] at hz_w2
  try simp only [World.size_alloc] at hz_w2
  have hl0_w2 : w.heap.size < w2.heap.size := by omega
  have hl1_w2 : w.heap.size + 1 < w2.heap.size := by omega
  have hl2_w2 : w.heap.size + 2 < w2.heap.size := by omega
  have a0_w2 : w2.cell? ⟨w.heap.size, 0, none⟩ = some (.int .i64 an) := below_cell_of hb_w2 (by first | (go_simp; done) | (refine below_cell_of (w := w1) ?_ (by first | assumption | (go_simp; done)); (repeat (first | assumption | exact Below.refl _ _ | refine below_set ?_ (by first | omega | (simp; done) | (simp; omega)) _ | refine below_drawn ?_ | refine below_drawnN ?_ _ | refine below_new ?_ _))))
  have a1_w2 : w2.cell? ⟨w.heap.size, 1, none⟩ = some (.int .i64 ad) := below_cell_of hb_w2 (by first | (go_simp; done) | (refine below_cell_of (w := w1) ?_ (by first | assumption | (go_simp; done)); (repeat (first | assumption | exact Below.refl _ _ | refine below_set ?_ (by first | omega | (simp; done) | (simp; omega)) _ | refine below_drawn ?_ | refine below_drawnN ?_ _ | refine below_new ?_ _))))
  have b0_w2 : w2.cell? ⟨w.heap.size + 1, 0, none⟩ = some (.int .i64 bn) := below_cell_of hb_w2 (by first | (go_simp; done) | (refine below_cell_of (w := w1) ?_ (by first | assumption | (go_simp; done)); (repeat (first | assumption | exact Below.refl _ _ | refine below_set ?_ (by first | omega | (simp; done) | (simp; omega)) _ | refine below_drawn ?_ | refine below_drawnN ?_ _ | refine below_new ?_ _))))
  have b1_w2 : w2.cell? ⟨w.heap.size + 1, 1, none⟩ = some (.int .i64 bd) := below_cell_of hb_w2 (by first | (go_simp; done) | (refine below_cell_of (w := w1) ?_ (by first | assumption | (go_simp; done)); (repeat (first | assumption | exact Below.refl _ _ | refine below_set ?_ (by first | omega | (simp; done) | (simp; omega)) _ | refine below_drawn ?_ | refine below_drawnN ?_ _ | refine below_new ?_ _))))
  have c0_w2 : w2.cell? ⟨w.heap.size + 2, 0, none⟩ = some (.int .i64 cn) := below_cell_of hb_w2 (by first | (go_simp; done) | (refine below_cell_of (w := w1) ?_ (by first | assumption | (go_simp; done)); (repeat (first | assumption | exact Below.refl _ _ | refine below_set ?_ (by first | omega | (simp; done) | (simp; omega)) _ | refine below_drawn ?_ | refine below_drawnN ?_ _ | refine below_new ?_ _))))
  have c1_w2 : w2.cell? ⟨w.heap.size + 2, 1, none⟩ = some (.int .i64 cd) := below_cell_of hb_w2 (by first | (go_simp; done) | (refine below_cell_of (w := w1) ?_ (by first | assumption | (go_simp; done)); (repeat (first | assumption | exact Below.refl _ _ | refine below_set ?_ (by first | omega | (simp; done) | (simp; omega)) _ | refine below_drawn ?_ | refine below_drawnN ?_ _ | refine below_new ?_ _))))
  go_wp2_with fail
  refine (rvalid_any bn bd _).mono ?_
  rw [HB.out]
  rintro e w3 ⟨rfl, hb_w3⟩
  have hB_w3 : Below w.heap.size w w3 := below_on (by first | ((repeat (first | assumption | exact Below.refl _ _ | refine below_set ?_ (by first | omega | (simp; done) | (simp; omega)) _ | refine below_drawn ?_ | refine below_drawnN ?_ _ | refine below_new ?_ _)); done) | (refine below_on hB_w2 ?_; (repeat (first | assumption | exact Below.refl _ _ | refine below_set ?_ (by first | omega | (simp; done) | (simp; omega)) _ | refine below_drawn ?_ | refine below_drawnN ?_ _ | refine below_new ?_ _)))) hb_w3
  have hz_w3 := hb_w3.size
  try simp only [World.size_setCell] at hz_w3
  try simp only [World.size_drew] at hz_w3
  try simp only [World.size_drewN] at hz_w3
  try simp only [World.size_alloc] at hz_w3
  try simp only [World.size_setCell] at hz_w3
  try simp only [World.size_drew] at hz_w3
  try simp only [World.size_drewN] at hz_w3
  try simp only [World.size_alloc] at hz_w3
  have hl0_w3 : w.heap.size < w3.heap.size := by omega
  have hl1_w3 : w.heap.size + 1 < w3.heap.size := by omega
  have hl2_w3 : w.heap.size + 2 < w3.heap.size := by omega
  have a0_w3 : w3.cell? ⟨w.heap.size, 0, none⟩ = some (.int .i64 an) := below_cell_of hb_w3 (by first | (go_simp; done) | (refine below_cell_of (w := w2) ?_ (by first | assumption | (go_simp; done)); (repeat (first | assumption | exact Below.refl _ _ | refine below_set ?_ (by first | omega | (simp; done) | (simp; omega)) _ | refine below_drawn ?_ | refine below_drawnN ?_ _ | refine below_new ?_ _))))
  have a1_w3 : w3.cell? ⟨w.heap.size, 1, none⟩ = some (.int .i64 ad) := below_cell_of hb_w3 (by first | (go_simp; done) | (refine below_cell_of (w := w2) ?_ (by first | assumption | (go_simp; done)); (repeat (first | assumption | exact Below.refl _ _ | refine below_set ?_ (by first | omega | (simp; done) | (simp; omega)) _ | refine below_drawn ?_ | refine below_drawnN ?_ _ | refine below_new ?_ _))))
  have b0_w3 : w3.cell? ⟨w.heap.size + 1, 0, none⟩ = some (.int .i64 bn) := below_cell_of hb_w3 (by first | (go_simp; done) | (refine below_cell_of (w := w2) ?_ (by first | assumption | (go_simp; done)); (repeat (first | assumption | exact Below.refl _ _ | refine below_set ?_ (by first | omega | (simp; done) | (simp; omega)) _ | refine below_drawn ?_ | refine below_drawnN ?_ _ | refine below_new ?_ _))))
  have b1_w3 : w3.cell? ⟨w.heap.size + 1, 1, none⟩ = some (.int .i64 bd) := below_cell_of hb_w3 (by first | (go_simp; done) | (refine below_cell_of (w := w2) ?_ (by first | assumption | (go_simp; done)); (repeat (first | assumption | exact Below.refl _ _ | refine below_set ?_ (by first | omega | (simp; done) | (simp; omega)) _ | refine below_drawn ?_ | refine below_drawnN ?_ _ | refine below_new ?_ _))))
  have c0_w3 : w3.cell? ⟨w.heap.size + 2, 0, none⟩ = some (.int .i64 cn) := below_cell_of hb_w3 (by first | (go_simp; done) | (refine below_cell_of (w := w2) ?_ (by first | assumption | (go_simp; done)); (repeat (first | assumption | exact Below.refl _ _ | refine below_set ?_ (by first | omega | (simp; done) | (simp; omega)) _ | refine below_drawn ?_ | refine below_drawnN ?_ _ | refine below_new ?_ _))))
  have c1_w3 : w3.cell? ⟨w.heap.size + 2, 1, none⟩ = some (.int .i64 cd) := below_cell_of hb_w3 (by first | (go_simp; done) | (refine below_cell_of (w := w2) ?_ (by first | assumption | (go_simp; done)); (repeat (first | assumption | exact Below.refl _ _ | refine below_set ?_ (by first | omega | (simp; done) | (simp; omega)) _ | refine below_drawn ?_ | refine below_drawnN ?_ _ | refine below_new ?_ _))))
  go_wp2
  go_ret
  exact ⟨rfl, hB_w3⟩
set_option maxHeartbeats 4000000 in
set_option maxRecDepth 100000 in
theorem order_bad3 (an ad bn bd cn cd : Int) (w : World) (ha : Rt.valid an ad = true) (hb : Rt.valid bn bd = true) (hc : Rt.valid cn cd = false) : Calls Try.prog 7 #[.agg #[.int .i64 an, .int .i64 ad], .agg #[.int .i64 bn, .int .i64 bd], .agg #[.int .i64 cn, .int .i64 cd]] w fun e w' => e = .returned (.bool true) ∧ Below w.heap.size w w' := by
  have HA := Lib.hid ha
  have HB := Lib.hid hb
  have HC := Lib.hid hc
  clear ha hb hc
  go_enter Try.func7, Try.ntmps7
  go_wp2_with fail
  refine (head_ok _).mono ?_
  rintro e w1 ⟨rfl, hb_w1⟩
  have hB_w1 : Below w.heap.size w w1 := below_on (by (repeat (first | assumption | exact Below.refl _ _ | refine below_set ?_ (by first | omega | (simp; done) | (simp; omega)) _ | refine below_drawn ?_ | refine below_drawnN ?_ _ | refine below_new ?_ _))) hb_w1
  have hz_w1 := hb_w1.size
  try simp only [World.size_setCell] at hz_w1
  try simp only [World.size_drew] at hz_w1
  try simp only [World.size_drewN] at hz_w1
  try simp only [World.size_alloc] at hz_w1
  try simp only [World.size_setCell] at hz_w1
  try simp only [World.size_drew] at hz_w1
  try simp only [World.size_drewN] at hz_w1
  try simp only [World.size_alloc] at hz_w1
  have hl0_w1 : w.heap.size < w1.heap.size := by omega
  have hl1_w1 : w.heap.size + 1 < w1.heap.size := by omega
  have hl2_w1 : w.heap.size + 2 < w1.heap.size := by omega
  have a0_w1 : w1.cell? ⟨w.heap.size, 0, none⟩ = some (.int .i64 an) := below_cell_of hb_w1 (by first | (go_simp; done) | (refine below_cell_of (w := w) ?_ (by first | assumption | (go_simp; done)); (repeat (first | assumption | exact Below.refl _ _ | refine below_set ?_ (by first | omega | (simp; done) | (simp; omega)) _ | refine below_drawn ?_ | refine below_drawnN ?_ _ | refine below_new ?_ _))))
  have a1_w1 : w1.cell? ⟨w.heap.size, 1, none⟩ = some (.int .i64 ad) := below_cell_of hb_w1 (by first | (go_simp; done) | (refine below_cell_of (w := w) ?_ (by first | assumption | (go_simp; done)); (repeat (first | assumption | exact Below.refl _ _ | refine below_set ?_ (by first | omega | (simp; done) | (simp; omega)) _ | refine below_drawn ?_ | refine below_drawnN ?_ _ | refine below_new ?_ _))))
  have b0_w1 : w1.cell? ⟨w.heap.size + 1, 0, none⟩ = some (.int .i64 bn) := below_cell_of hb_w1 (by first | (go_simp; done) | (refine below_cell_of (w := w) ?_ (by first | assumption | (go_simp; done)); (repeat (first | assumption | exact Below.refl _ _ | refine below_set ?_ (by first | omega | (simp; done) | (simp; omega)) _ | refine below_drawn ?_ | refine below_drawnN ?_ _ | refine below_new ?_ _))))
  have b1_w1 : w1.cell? ⟨w.heap.size + 1, 1, none⟩ = some (.int .i64 bd) := below_cell_of hb_w1 (by first | (go_simp; done) | (refine below_cell_of (w := w) ?_ (by first | assumption | (go_simp; done)); (repeat (first | assumption | exact Below.refl _ _ | refine below_set ?_ (by first | omega | (simp; done) | (simp; omega)) _ | refine below_drawn ?_ | refine below_drawnN ?_ _ | refine below_new ?_ _))))
  have c0_w1 : w1.cell? ⟨w.heap.size + 2, 0, none⟩ = some (.int .i64 cn) := below_cell_of hb_w1 (by first | (go_simp; done) | (refine below_cell_of (w := w) ?_ (by first | assumption | (go_simp; done)); (repeat (first | assumption | exact Below.refl _ _ | refine below_set ?_ (by first | omega | (simp; done) | (simp; omega)) _ | refine below_drawn ?_ | refine below_drawnN ?_ _ | refine below_new ?_ _))))
  have c1_w1 : w1.cell? ⟨w.heap.size + 2, 1, none⟩ = some (.int .i64 cd) := below_cell_of hb_w1 (by first | (go_simp; done) | (refine below_cell_of (w := w) ?_ (by first | assumption | (go_simp; done)); (repeat (first | assumption | exact Below.refl _ _ | refine below_set ?_ (by first | omega | (simp; done) | (simp; omega)) _ | refine below_drawn ?_ | refine below_drawnN ?_ _ | refine below_new ?_ _))))
  go_wp2_with fail
  refine (rvalid_any an ad _).mono ?_
  rw [HA.out]
  rintro e w2 ⟨rfl, hb_w2⟩
  have hB_w2 : Below w.heap.size w w2 := below_on (by first | ((repeat (first | assumption | exact Below.refl _ _ | refine below_set ?_ (by first | omega | (simp; done) | (simp; omega)) _ | refine below_drawn ?_ | refine below_drawnN ?_ _ | refine below_new ?_ _)); done) | (refine below_on hB_w1 ?_; (repeat (first | assumption | exact Below.refl _ _ | refine below_set ?_ (by first | omega | (simp; done) | (simp; omega)) _ | refine below_drawn ?_ | refine below_drawnN ?_ _ | refine below_new ?_ _)))) hb_w2
  have hz_w2 := hb_w2.size
  try simp only [World.size_setCell] at hz_w2
  try simp only [World.size_drew] at hz_w2
  try simp only [World.size_drewN] at hz_w2
  try simp only [World.size_alloc] at hz_w2
  try simp only [World.size_setCell] at hz_w2
  try simp only [World.size_drew] at hz_w2
  try simp only [World.size_drewN] at hz_w2
  try simp only [World.size_alloc] at hz_w2
  have hl0_w2 : w.heap.size < w2.heap.size := by omega
  have hl1_w2 : w.heap.size + 1 < w2.heap.size := by omega
  have hl2_w2 : w.heap.size + 2 < w2.heap.size := by omega
  have a0_w2 : w2.cell? ⟨w.heap.size, 0, none⟩ = some (.int .i64 an) := below_cell_of hb_w2 (by first | (go_simp; done) | (refine below_cell_of (w := w1) ?_ (by first | assumption | (go_simp; done)); (repeat (first | assumption | exact Below.refl _ _ | refine below_set ?_ (by first | omega | (simp; done) | (simp; omega)) _ | refine below_drawn ?_ | refine below_drawnN ?_ _ | refine below_new ?_ _))))
  have a1_w2 : w2.cell? ⟨w.heap.size, 1, none⟩ = some (.int .i64 ad) := below_cell_of hb_w2 (by first | (go_simp; done) | (refine below_cell_of (w := w1) ?_ (by first | assumption | (go_simp; done)); (repeat (first | assumption | exact Below.refl _ _ | refine below_set ?_ (by first | omega | (simp; done) | (simp; omega)) _ | refine below_drawn ?_ | refine below_drawnN ?_ _ | refine below_new ?_ _))))
  have b0_w2 : w2.cell? ⟨w.heap.size + 1, 0, none⟩ = some (.int .i64 bn) := below_cell_of hb_w2 (by first | (go_simp; done) | (refine below_cell_of (w := w1) ?_ (by first | assumption | (go_simp; done)); (repeat (first | assumption | exact Below.refl _ _ | refine below_set ?_ (by first | omega | (simp; done) | (simp; omega)) _ | refine below_drawn ?_ | refine below_drawnN ?_ _ | refine below_new ?_ _))))
  have b1_w2 : w2.cell? ⟨w.heap.size + 1, 1, none⟩ = some (.int .i64 bd) := below_cell_of hb_w2 (by first | (go_simp; done) | (refine below_cell_of (w := w1) ?_ (by first | assumption | (go_simp; done)); (repeat (first | assumption | exact Below.refl _ _ | refine below_set ?_ (by first | omega | (simp; done) | (simp; omega)) _ | refine below_drawn ?_ | refine below_drawnN ?_ _ | refine below_new ?_ _))))
  have c0_w2 : w2.cell? ⟨w.heap.size + 2, 0, none⟩ = some (.int .i64 cn) := below_cell_of hb_w2 (by first | (go_simp; done) | (refine below_cell_of (w := w1) ?_ (by first | assumption | (go_simp; done)); (repeat (first | assumption | exact Below.refl _ _ | refine below_set ?_ (by first | omega | (simp; done) | (simp; omega)) _ | refine below_drawn ?_ | refine below_drawnN ?_ _ | refine below_new ?_ _))))
  have c1_w2 : w2.cell? ⟨w.heap.size + 2, 1, none⟩ = some (.int .i64 cd) := below_cell_of hb_w2 (by first | (go_simp; done) | (refine below_cell_of (w := w1) ?_ (by first | assumption | (go_simp; done)); (repeat (first | assumption | exact Below.refl _ _ | refine below_set ?_ (by first | omega | (simp; done) | (simp; omega)) _ | refine below_drawn ?_ | refine below_drawnN ?_ _ | refine below_new ?_ _))))
  go_wp2_with fail
  refine (rvalid_any bn bd _).mono ?_
  rw [HB.out]
  rintro e w3 ⟨rfl, hb_w3⟩
  have hB_w3 : Below w.heap.size w w3 := below_on (by first | ((repeat (first | assumption | exact Below.refl _ _ | refine below_set ?_ (by first | omega | (simp; done) | (simp; omega)) _ | refine below_drawn ?_ | refine below_drawnN ?_ _ | refine below_new ?_ _)); done) | (refine below_on hB_w2 ?_; (repeat (first | assumption | exact Below.refl _ _ | refine below_set ?_ (by first | omega | (simp; done) | (simp; omega)) _ | refine below_drawn ?_ | refine below_drawnN ?_ _ | refine below_new ?_ _)))) hb_w3
  have hz_w3 := hb_w3.size
  try simp only [World.size_setCell] at hz_w3
  try simp only [World.size_drew] at hz_w3
  try simp only [World.size_drewN] at hz_w3
  try simp only [World.size_alloc] at hz_w3
  try simp only [World.size_setCell] at hz_w3
  try simp only [World.size_drew] at hz_w3
  try simp only [World.size_drewN] at hz_w3
  try simp only [World.size_alloc] at hz_w3
  have hl0_w3 : w.heap.size < w3.heap.size := by omega
  have hl1_w3 : w.heap.size + 1 < w3.heap.size := by omega
  have hl2_w3 : w.heap.size + 2 < w3.heap.size := by omega
  have a0_w3 : w3.cell? ⟨w.heap.size, 0, none⟩ = some (.int .i64 an) := below_cell_of hb_w3 (by first | (go_simp; done) | (refine below_cell_of (w := w2) ?_ (by first | assumption | (go_simp; done)); (repeat (first | assumption | exact Below.refl _ _ | refine below_set ?_ (by first | omega | (simp; done) | (simp; omega)) _ | refine below_drawn ?_ | refine below_drawnN ?_ _ | refine below_new ?_ _))))
  have a1_w3 : w3.cell? ⟨w.heap.size, 1, none⟩ = some (.int .i64 ad) := below_cell_of hb_w3 (by first | (go_simp; done) | (refine below_cell_of (w := w2) ?_ (by first | assumption | (go_simp; done)); (repeat (first | assumption | exact Below.refl _ _ | refine below_set ?_ (by first | omega | (simp; done) | (simp; omega)) _ | refine below_drawn ?_ | refine below_drawnN ?_ _ | refine below_new ?_ _))))
  have b0_w3 : w3.cell? ⟨w.heap.size + 1, 0, none⟩ = some (.int .i64 bn) := below_cell_of hb_w3 (by first | (go_simp; done) | (refine below_cell_of (w := w2) ?_ (by first | assumption | (go_simp; done)); (repeat (first | assumption | exact Below.refl _ _ | refine below_set ?_ (by first | omega | (simp; done) | (simp; omega)) _ | refine below_drawn ?_ | refine below_drawnN ?_ _ | refine below_new ?_ _))))
  have b1_w3 : w3.cell? ⟨w.heap.size + 1, 1, none⟩ = some (.int .i64 bd) := below_cell_of hb_w3 (by first | (go_simp; done) | (refine below_cell_of (w := w2) ?_ (by first | assumption | (go_simp; done)); (repeat (first | assumption | exact Below.refl _ _ | refine below_set ?_ (by first | omega | (simp; done) | (simp; omega)) _ | refine below_drawn ?_ | refine below_drawnN ?_ _ | refine below_new ?_ _))))
  have c0_w3 : w3.cell? ⟨w.heap.size + 2, 0, none⟩ = some (.int .i64 cn) := below_cell_of hb_w3 (by first | (go_simp; done) | (refine below_cell_of (w := w2) ?_ (by first | assumption | (go_simp; done)); (repeat (first | assumption | exact Below.refl _ _ | refine below_set ?_ (by first | omega | (simp; done) | (simp; omega)) _ | refine below_drawn ?_ | refine below_drawnN ?_ _ | refine below_new ?_ _))))
  have c1_w3 : w3.cell? ⟨w.heap.size + 2, 1, none⟩ = some (.int .i64 cd) := below_cell_of hb_w3 (by first | (go_simp; done) | (refine below_cell_of (w := w2) ?_ (by first | assumption | (go_simp; done)); (repeat (first | assumption | exact Below.refl _ _ | refine below_set ?_ (by first | omega | (simp; done) | (simp; omega)) _ | refine below_drawn ?_ | refine below_drawnN ?_ _ | refine below_new ?_ _))))
  go_wp2_with fail
  refine (rvalid_any cn cd _).mono ?_
  rw [HC.out]
  rintro e w4 ⟨rfl, hb_w4⟩
  have hB_w4 : Below w.heap.size w w4 := below_on (by first | ((repeat (first | assumption | exact Below.refl _ _ | refine below_set ?_ (by first | omega | (simp; done) | (simp; omega)) _ | refine below_drawn ?_ | refine below_drawnN ?_ _ | refine below_new ?_ _)); done) | (refine below_on hB_w3 ?_; (repeat (first | assumption | exact Below.refl _ _ | refine below_set ?_ (by first | omega | (simp; done) | (simp; omega)) _ | refine below_drawn ?_ | refine below_drawnN ?_ _ | refine below_new ?_ _)))) hb_w4
  have hz_w4 := hb_w4.size
  try simp only [World.size_setCell] at hz_w4
  try simp only [World.size_drew] at hz_w4
  try simp only [World.size_drewN] at hz_w4
  try simp only [World.size_alloc] at hz_w4
  try simp only [World.size_setCell] at hz_w4
  try simp only [World.size_drew] at hz_w4
  try simp only [World.size_drewN] at hz_w4
  try simp only [World.size_alloc] at hz_w4
  have hl0_w4 : w.heap.size < w4.heap.size := by omega
  have hl1_w4 : w.heap.size + 1 < w4.heap.size := by omega
  have hl2_w4 : w.heap.size + 2 < w4.heap.size := by omega
  have a0_w4 : w4.cell? ⟨w.heap.size, 0, none⟩ = some (.int .i64 an) := below_cell_of hb_w4 (by first | (go_simp; done) | (refine below_cell_of (w := w3) ?_ (by first | assumption | (go_simp; done)); (repeat (first | assumption | exact Below.refl _ _ | refine below_set ?_ (by first | omega | (simp; done) | (simp; omega)) _ | refine below_drawn ?_ | refine below_drawnN ?_ _ | refine below_new ?_ _))))
  have a1_w4 : w4.cell? ⟨w.heap.size, 1, none⟩ = some (.int .i64 ad) := below_cell_of hb_w4 (by first | (go_simp; done) | (refine below_cell_of (w := w3) ?_ (by first | assumption | (go_simp; done)); (repeat (first | assumption | exact Below.refl _ _ | refine below_set ?_ (by first | omega | (simp; done) | (simp; omega)) _ | refine below_drawn ?_ | refine below_drawnN ?_ _ | refine below_new ?_ _))))
  have b0_w4 : w4.cell? ⟨w.heap.size + 1, 0, none⟩ = some (.int .i64 bn) := below_cell_of hb_w4 (by first | (go_simp; done) | (refine below_cell_of (w := w3) ?_ (by first | assumption | (go_simp; done)); (repeat (first | assumption | exact Below.refl _ _ | refine below_set ?_ (by first | omega | (simp; done) | (simp; omega)) _ | refine below_drawn ?_ | refine below_drawnN ?_ _ | refine below_new ?_ _))))
  have b1_w4 : w4.cell? ⟨w.heap.size + 1, 1, none⟩ = some (.int .i64 bd) := below_cell_of hb_w4 (by first | (go_simp; done) | (refine below_cell_of (w := w3) ?_ (by first | assumption | (go_simp; done)); (repeat (first | assumption | exact Below.refl _ _ | refine below_set ?_ (by first | omega | (simp; done) | (simp; omega)) _ | refine below_drawn ?_ | refine below_drawnN ?_ _ | refine below_new ?_ _))))
  have c0_w4 : w4.cell? ⟨w.heap.size + 2, 0, none⟩ = some (.int .i64 cn) := below_cell_of hb_w4 (by first | (go_simp; done) | (refine below_cell_of (w := w3) ?_ (by first | assumption | (go_simp; done)); (repeat (first | assumption | exact Below.refl _ _ | refine below_set ?_ (by first | omega | (simp; done) | (simp; omega)) _ | refine below_drawn ?_ | refine below_drawnN ?_ _ | refine below_new ?_ _))))
  have c1_w4 : w4.cell? ⟨w.heap.size + 2, 1, none⟩ = some (.int .i64 cd) := below_cell_of hb_w4 (by first | (go_simp; done) | (refine below_cell_of (w := w3) ?_ (by first | assumption | (go_simp; done)); (repeat (first | assumption | exact Below.refl _ _ | refine below_set ?_ (by first | omega | (simp; done) | (simp; omega)) _ | refine below_drawn ?_ | refine below_drawnN ?_ _ | refine below_new ?_ _))))
  go_wp2
  go_ret
  exact ⟨rfl, hB_w4⟩
set_option maxHeartbeats 4000000 in
set_option maxRecDepth 100000 in
theorem order_walk (an ad bn bd cn cd m o p dn dd de sn sd se tn td te q l : Int) (w : World) (ha : Rt.valid an ad = true) (hb : Rt.valid bn bd = true) (hc : Rt.valid cn cd = true) (a0 : an ≤ 1000000000) (b0 : bn ≤ 1000000000) (c0 : cn ≤ 1000000000) (hm : Rt.cmp an ad bn bd = (m, 0)) (hn : Rt.cmp bn bd an ad = (-m, 0)) (ho : Rt.cmp bn bd cn cd = (o, 0)) (hp : Rt.cmp an ad cn cd = (p, 0)) (m0 : -1 ≤ m) (m1 : m ≤ 1) (hz : m = 0 ↔ an = bn ∧ ad = bd) (ht : 0 < m ∨ 0 < o ∨ p ≤ 0) (hd : Rt.sub an ad bn bd = (dn, dd, de)) (hsg : (de == 0) = false ∨ (de == 0) = true ∧ (m = 1 ∧ 0 < dn ∨ m = 0 ∧ dn = 0 ∨ m = -1 ∧ dn < 0)) (hs : Rt.add an ad cn cd = (sn, sd, se)) (hu : Rt.add bn bd cn cd = (tn, td, te)) (s0 : sn ≤ 1000000000) (t0 : tn ≤ 1000000000) (hq : Rt.cmp sn sd tn td = (q, l)) (hf : (se != 0) = true ∨ (se != 0) = false ∧ (te != 0) = true ∨ (se != 0) = false ∧ (te != 0) = false ∧ l = 0 ∧ q = m) : Calls Try.prog 7 #[.agg #[.int .i64 an, .int .i64 ad], .agg #[.int .i64 bn, .int .i64 bd], .agg #[.int .i64 cn, .int .i64 cd]] w fun e w' => e = .returned (.bool true) ∧ Below w.heap.size w w' := by
  have HA := Lib.hid ha
  have HB := Lib.hid hb
  have HC := Lib.hid hc
  have HM := Lib.hid hm
  have HN := Lib.hid hn
  have HO := Lib.hid ho
  have HP := Lib.hid hp
  have HZ := Lib.hid hz
  have HT := Lib.hid ht
  have HD := Lib.hid hd
  have HSG := Lib.hid hsg
  have HS := Lib.hid hs
  have HU := Lib.hid hu
  have HQ := Lib.hid hq
  have HF := Lib.hid hf
  clear ha hb hc hm hn ho hp hz ht hd hsg hs hu hq hf
  go_enter Try.func7, Try.ntmps7
  go_wp2_with fail
  refine (head_ok _).mono ?_
  rintro e w1 ⟨rfl, hb_w1⟩
  have hB_w1 : Below w.heap.size w w1 := below_on (by (repeat (first | assumption | exact Below.refl _ _ | refine below_set ?_ (by first | omega | (simp; done) | (simp; omega)) _ | refine below_drawn ?_ | refine below_drawnN ?_ _ | refine below_new ?_ _))) hb_w1
  have hz_w1 := hb_w1.size
  try simp only [World.size_setCell] at hz_w1
  try simp only [World.size_drew] at hz_w1
  try simp only [World.size_drewN] at hz_w1
  try simp only [World.size_alloc] at hz_w1
  try simp only [World.size_setCell] at hz_w1
  try simp only [World.size_drew] at hz_w1
  try simp only [World.size_drewN] at hz_w1
  try simp only [World.size_alloc] at hz_w1
  have hl0_w1 : w.heap.size < w1.heap.size := by omega
  have hl1_w1 : w.heap.size + 1 < w1.heap.size := by omega
  have hl2_w1 : w.heap.size + 2 < w1.heap.size := by omega
  have a0_w1 : w1.cell? ⟨w.heap.size, 0, none⟩ = some (.int .i64 an) := below_cell_of hb_w1 (by first | (go_simp; done) | (refine below_cell_of (w := w) ?_ (by first | assumption | (go_simp; done)); (repeat (first | assumption | exact Below.refl _ _ | refine below_set ?_ (by first | omega | (simp; done) | (simp; omega)) _ | refine below_drawn ?_ | refine below_drawnN ?_ _ | refine below_new ?_ _))))
  have a1_w1 : w1.cell? ⟨w.heap.size, 1, none⟩ = some (.int .i64 ad) := below_cell_of hb_w1 (by first | (go_simp; done) | (refine below_cell_of (w := w) ?_ (by first | assumption | (go_simp; done)); (repeat (first | assumption | exact Below.refl _ _ | refine below_set ?_ (by first | omega | (simp; done) | (simp; omega)) _ | refine below_drawn ?_ | refine below_drawnN ?_ _ | refine below_new ?_ _))))
  have b0_w1 : w1.cell? ⟨w.heap.size + 1, 0, none⟩ = some (.int .i64 bn) := below_cell_of hb_w1 (by first | (go_simp; done) | (refine below_cell_of (w := w) ?_ (by first | assumption | (go_simp; done)); (repeat (first | assumption | exact Below.refl _ _ | refine below_set ?_ (by first | omega | (simp; done) | (simp; omega)) _ | refine below_drawn ?_ | refine below_drawnN ?_ _ | refine below_new ?_ _))))
  have b1_w1 : w1.cell? ⟨w.heap.size + 1, 1, none⟩ = some (.int .i64 bd) := below_cell_of hb_w1 (by first | (go_simp; done) | (refine below_cell_of (w := w) ?_ (by first | assumption | (go_simp; done)); (repeat (first | assumption | exact Below.refl _ _ | refine below_set ?_ (by first | omega | (simp; done) | (simp; omega)) _ | refine below_drawn ?_ | refine below_drawnN ?_ _ | refine below_new ?_ _))))
  have c0_w1 : w1.cell? ⟨w.heap.size + 2, 0, none⟩ = some (.int .i64 cn) := below_cell_of hb_w1 (by first | (go_simp; done) | (refine below_cell_of (w := w) ?_ (by first | assumption | (go_simp; done)); (repeat (first | assumption | exact Below.refl _ _ | refine below_set ?_ (by first | omega | (simp; done) | (simp; omega)) _ | refine below_drawn ?_ | refine below_drawnN ?_ _ | refine below_new ?_ _))))
  have c1_w1 : w1.cell? ⟨w.heap.size + 2, 1, none⟩ = some (.int .i64 cd) := below_cell_of hb_w1 (by first | (go_simp; done) | (refine below_cell_of (w := w) ?_ (by first | assumption | (go_simp; done)); (repeat (first | assumption | exact Below.refl _ _ | refine below_set ?_ (by first | omega | (simp; done) | (simp; omega)) _ | refine below_drawn ?_ | refine below_drawnN ?_ _ | refine below_new ?_ _))))
  go_wp2_with fail
  refine (rvalid_any an ad _).mono ?_
  rw [HA.out]
  rintro e w2 ⟨rfl, hb_w2⟩
  have hB_w2 : Below w.heap.size w w2 := below_on (by first | ((repeat (first | assumption | exact Below.refl _ _ | refine below_set ?_ (by first | omega | (simp; done) | (simp; omega)) _ | refine below_drawn ?_ | refine below_drawnN ?_ _ | refine below_new ?_ _)); done) | (refine below_on hB_w1 ?_; (repeat (first | assumption | exact Below.refl _ _ | refine below_set ?_ (by first | omega | (simp; done) | (simp; omega)) _ | refine below_drawn ?_ | refine below_drawnN ?_ _ | refine below_new ?_ _)))) hb_w2
  have hz_w2 := hb_w2.size
  try simp only [World.size_setCell] at hz_w2
  try simp only [World.size_drew] at hz_w2
  try simp only [World.size_drewN] at hz_w2
  try simp only [World.size_alloc] at hz_w2
  try simp only [World.size_setCell] at hz_w2
  try simp only [World.size_drew] at hz_w2
  try simp only [World.size_drewN] at hz_w2
  try simp only [World.size_alloc] at hz_w2
  have hl0_w2 : w.heap.size < w2.heap.size := by omega
  have hl1_w2 : w.heap.size + 1 < w2.heap.size := by omega
  have hl2_w2 : w.heap.size + 2 < w2.heap.size := by omega
  have a0_w2 : w2.cell? ⟨w.heap.size, 0, none⟩ = some (.int .i64 an) := below_cell_of hb_w2 (by first | (go_simp; done) | (refine below_cell_of (w := w1) ?_ (by first | assumption | (go_simp; done)); (repeat (first | assumption | exact Below.refl _ _ | refine below_set ?_ (by first | omega | (simp; done) | (simp; omega)) _ | refine below_drawn ?_ | refine below_drawnN ?_ _ | refine below_new ?_ _))))
  have a1_w2 : w2.cell? ⟨w.heap.size, 1, none⟩ = some (.int .i64 ad) := below_cell_of hb_w2 (by first | (go_simp; done) | (refine below_cell_of (w := w1) ?_ (by first | assumption | (go_simp; done)); (repeat (first | assumption | exact Below.refl _ _ | refine below_set ?_ (by first | omega | (simp; done) | (simp; omega)) _ | refine below_drawn ?_ | refine below_drawnN ?_ _ | refine below_new ?_ _))))
  have b0_w2 : w2.cell? ⟨w.heap.size + 1, 0, none⟩ = some (.int .i64 bn) := below_cell_of hb_w2 (by first | (go_simp; done) | (refine below_cell_of (w := w1) ?_ (by first | assumption | (go_simp; done)); (repeat (first | assumption | exact Below.refl _ _ | refine below_set ?_ (by first | omega | (simp; done) | (simp; omega)) _ | refine below_drawn ?_ | refine below_drawnN ?_ _ | refine below_new ?_ _))))
  have b1_w2 : w2.cell? ⟨w.heap.size + 1, 1, none⟩ = some (.int .i64 bd) := below_cell_of hb_w2 (by first | (go_simp; done) | (refine below_cell_of (w := w1) ?_ (by first | assumption | (go_simp; done)); (repeat (first | assumption | exact Below.refl _ _ | refine below_set ?_ (by first | omega | (simp; done) | (simp; omega)) _ | refine below_drawn ?_ | refine below_drawnN ?_ _ | refine below_new ?_ _))))
  have c0_w2 : w2.cell? ⟨w.heap.size + 2, 0, none⟩ = some (.int .i64 cn) := below_cell_of hb_w2 (by first | (go_simp; done) | (refine below_cell_of (w := w1) ?_ (by first | assumption | (go_simp; done)); (repeat (first | assumption | exact Below.refl _ _ | refine below_set ?_ (by first | omega | (simp; done) | (simp; omega)) _ | refine below_drawn ?_ | refine below_drawnN ?_ _ | refine below_new ?_ _))))
  have c1_w2 : w2.cell? ⟨w.heap.size + 2, 1, none⟩ = some (.int .i64 cd) := below_cell_of hb_w2 (by first | (go_simp; done) | (refine below_cell_of (w := w1) ?_ (by first | assumption | (go_simp; done)); (repeat (first | assumption | exact Below.refl _ _ | refine below_set ?_ (by first | omega | (simp; done) | (simp; omega)) _ | refine below_drawn ?_ | refine below_drawnN ?_ _ | refine below_new ?_ _))))
  go_wp2_with fail
  refine (rvalid_any bn bd _).mono ?_
  rw [HB.out]
  rintro e w3 ⟨rfl, hb_w3⟩
  have hB_w3 : Below w.heap.size w w3 := below_on (by first | ((repeat (first | assumption | exact Below.refl _ _ | refine below_set ?_ (by first | omega | (simp; done) | (simp; omega)) _ | refine below_drawn ?_ | refine below_drawnN ?_ _ | refine below_new ?_ _)); done) | (refine below_on hB_w2 ?_; (repeat (first | assumption | exact Below.refl _ _ | refine below_set ?_ (by first | omega | (simp; done) | (simp; omega)) _ | refine below_drawn ?_ | refine below_drawnN ?_ _ | refine below_new ?_ _)))) hb_w3
  have hz_w3 := hb_w3.size
  try simp only [World.size_setCell] at hz_w3
  try simp only [World.size_drew] at hz_w3
  try simp only [World.size_drewN] at hz_w3
  try simp only [World.size_alloc] at hz_w3
  try simp only [World.size_setCell] at hz_w3
  try simp only [World.size_drew] at hz_w3
  try simp only [World.size_drewN] at hz_w3
  try simp only [World.size_alloc] at hz_w3
  have hl0_w3 : w.heap.size < w3.heap.size := by omega
  have hl1_w3 : w.heap.size + 1 < w3.heap.size := by omega
  have hl2_w3 : w.heap.size + 2 < w3.heap.size := by omega
  have a0_w3 : w3.cell? ⟨w.heap.size, 0, none⟩ = some (.int .i64 an) := below_cell_of hb_w3 (by first | (go_simp; done) | (refine below_cell_of (w := w2) ?_ (by first | assumption | (go_simp; done)); (repeat (first | assumption | exact Below.refl _ _ | refine below_set ?_ (by first | omega | (simp; done) | (simp; omega)) _ | refine below_drawn ?_ | refine below_drawnN ?_ _ | refine below_new ?_ _))))
  have a1_w3 : w3.cell? ⟨w.heap.size, 1, none⟩ = some (.int .i64 ad) := below_cell_of hb_w3 (by first | (go_simp; done) | (refine below_cell_of (w := w2) ?_ (by first | assumption | (go_simp; done)); (repeat (first | assumption | exact Below.refl _ _ | refine below_set ?_ (by first | omega | (simp; done) | (simp; omega)) _ | refine below_drawn ?_ | refine below_drawnN ?_ _ | refine below_new ?_ _))))
  have b0_w3 : w3.cell? ⟨w.heap.size + 1, 0, none⟩ = some (.int .i64 bn) := below_cell_of hb_w3 (by first | (go_simp; done) | (refine below_cell_of (w := w2) ?_ (by first | assumption | (go_simp; done)); (repeat (first | assumption | exact Below.refl _ _ | refine below_set ?_ (by first | omega | (simp; done) | (simp; omega)) _ | refine below_drawn ?_ | refine below_drawnN ?_ _ | refine below_new ?_ _))))
  have b1_w3 : w3.cell? ⟨w.heap.size + 1, 1, none⟩ = some (.int .i64 bd) := below_cell_of hb_w3 (by first | (go_simp; done) | (refine below_cell_of (w := w2) ?_ (by first | assumption | (go_simp; done)); (repeat (first | assumption | exact Below.refl _ _ | refine below_set ?_ (by first | omega | (simp; done) | (simp; omega)) _ | refine below_drawn ?_ | refine below_drawnN ?_ _ | refine below_new ?_ _))))
  have c0_w3 : w3.cell? ⟨w.heap.size + 2, 0, none⟩ = some (.int .i64 cn) := below_cell_of hb_w3 (by first | (go_simp; done) | (refine below_cell_of (w := w2) ?_ (by first | assumption | (go_simp; done)); (repeat (first | assumption | exact Below.refl _ _ | refine below_set ?_ (by first | omega | (simp; done) | (simp; omega)) _ | refine below_drawn ?_ | refine below_drawnN ?_ _ | refine below_new ?_ _))))
  have c1_w3 : w3.cell? ⟨w.heap.size + 2, 1, none⟩ = some (.int .i64 cd) := below_cell_of hb_w3 (by first | (go_simp; done) | (refine below_cell_of (w := w2) ?_ (by first | assumption | (go_simp; done)); (repeat (first | assumption | exact Below.refl _ _ | refine below_set ?_ (by first | omega | (simp; done) | (simp; omega)) _ | refine below_drawn ?_ | refine below_drawnN ?_ _ | refine below_new ?_ _))))
  go_wp2_with fail
  refine (rvalid_any cn cd _).mono ?_
  rw [HC.out]
  rintro e w4 ⟨rfl, hb_w4⟩
  have hB_w4 : Below w.heap.size w w4 := below_on (by first | ((repeat (first | assumption | exact Below.refl _ _ | refine below_set ?_ (by first | omega | (simp; done) | (simp; omega)) _ | refine below_drawn ?_ | refine below_drawnN ?_ _ | refine below_new ?_ _)); done) | (refine below_on hB_w3 ?_; (repeat (first | assumption | exact Below.refl _ _ | refine below_set ?_ (by first | omega | (simp; done) | (simp; omega)) _ | refine below_drawn ?_ | refine below_drawnN ?_ _ | refine below_new ?_ _)))) hb_w4
  have hz_w4 := hb_w4.size
  try simp only [World.size_setCell] at hz_w4
  try simp only [World.size_drew] at hz_w4
  try simp only [World.size_drewN] at hz_w4
  try simp only [World.size_alloc] at hz_w4
  try simp only [World.size_setCell] at hz_w4
  try simp only [World.size_drew] at hz_w4
  try simp only [World.size_drewN] at hz_w4
  try simp only [World.size_alloc] at hz_w4
  have hl0_w4 : w.heap.size < w4.heap.size := by omega
  have hl1_w4 : w.heap.size + 1 < w4.heap.size := by omega
  have hl2_w4 : w.heap.size + 2 < w4.heap.size := by omega
  have a0_w4 : w4.cell? ⟨w.heap.size, 0, none⟩ = some (.int .i64 an) := below_cell_of hb_w4 (by first | (go_simp; done) | (refine below_cell_of (w := w3) ?_ (by first | assumption | (go_simp; done)); (repeat (first | assumption | exact Below.refl _ _ | refine below_set ?_ (by first | omega | (simp; done) | (simp; omega)) _ | refine below_drawn ?_ | refine below_drawnN ?_ _ | refine below_new ?_ _))))
  have a1_w4 : w4.cell? ⟨w.heap.size, 1, none⟩ = some (.int .i64 ad) := below_cell_of hb_w4 (by first | (go_simp; done) | (refine below_cell_of (w := w3) ?_ (by first | assumption | (go_simp; done)); (repeat (first | assumption | exact Below.refl _ _ | refine below_set ?_ (by first | omega | (simp; done) | (simp; omega)) _ | refine below_drawn ?_ | refine below_drawnN ?_ _ | refine below_new ?_ _))))
  have b0_w4 : w4.cell? ⟨w.heap.size + 1, 0, none⟩ = some (.int .i64 bn) := below_cell_of hb_w4 (by first | (go_simp; done) | (refine below_cell_of (w := w3) ?_ (by first | assumption | (go_simp; done)); (repeat (first | assumption | exact Below.refl _ _ | refine below_set ?_ (by first | omega | (simp; done) | (simp; omega)) _ | refine below_drawn ?_ | refine below_drawnN ?_ _ | refine below_new ?_ _))))
  have b1_w4 : w4.cell? ⟨w.heap.size + 1, 1, none⟩ = some (.int .i64 bd) := below_cell_of hb_w4 (by first | (go_simp; done) | (refine below_cell_of (w := w3) ?_ (by first | assumption | (go_simp; done)); (repeat (first | assumption | exact Below.refl _ _ | refine below_set ?_ (by first | omega | (simp; done) | (simp; omega)) _ | refine below_drawn ?_ | refine below_drawnN ?_ _ | refine below_new ?_ _))))
  have c0_w4 : w4.cell? ⟨w.heap.size + 2, 0, none⟩ = some (.int .i64 cn) := below_cell_of hb_w4 (by first | (go_simp; done) | (refine below_cell_of (w := w3) ?_ (by first | assumption | (go_simp; done)); (repeat (first | assumption | exact Below.refl _ _ | refine below_set ?_ (by first | omega | (simp; done) | (simp; omega)) _ | refine below_drawn ?_ | refine below_drawnN ?_ _ | refine below_new ?_ _))))
  have c1_w4 : w4.cell? ⟨w.heap.size + 2, 1, none⟩ = some (.int .i64 cd) := below_cell_of hb_w4 (by first | (go_simp; done) | (refine below_cell_of (w := w3) ?_ (by first | assumption | (go_simp; done)); (repeat (first | assumption | exact Below.refl _ _ | refine below_set ?_ (by first | omega | (simp; done) | (simp; omega)) _ | refine below_drawn ?_ | refine below_drawnN ?_ _ | refine below_new ?_ _))))
  go_wp2_with fail
  refine (cmp_any an ad bn bd _ (by omega) (by omega)).mono ?_
  rw [HM.out]
  rintro e w5 ⟨rfl, hb_w5⟩
  have hB_w5 : Below w.heap.size w w5 := below_on (by first | ((repeat (first | assumption | exact Below.refl _ _ | refine below_set ?_ (by first | omega | (simp; done) | (simp; omega)) _ | refine below_drawn ?_ | refine below_drawnN ?_ _ | refine below_new ?_ _)); done) | (refine below_on hB_w4 ?_; (repeat (first | assumption | exact Below.refl _ _ | refine below_set ?_ (by first | omega | (simp; done) | (simp; omega)) _ | refine below_drawn ?_ | refine below_drawnN ?_ _ | refine below_new ?_ _)))) hb_w5
  have hz_w5 := hb_w5.size
  try simp only [World.size_setCell] at hz_w5
  try simp only [World.size_drew] at hz_w5
  try simp only [World.size_drewN] at hz_w5
  try simp only [World.size_alloc] at hz_w5
  try simp only [World.size_setCell] at hz_w5
  try simp only [World.size_drew] at hz_w5
  try simp only [World.size_drewN] at hz_w5
  try simp only [World.size_alloc] at hz_w5
  have hl0_w5 : w.heap.size < w5.heap.size := by omega
  have hl1_w5 : w.heap.size + 1 < w5.heap.size := by omega
  have hl2_w5 : w.heap.size + 2 < w5.heap.size := by omega
  have a0_w5 : w5.cell? ⟨w.heap.size, 0, none⟩ = some (.int .i64 an) := below_cell_of hb_w5 (by first | (go_simp; done) | (refine below_cell_of (w := w4) ?_ (by first | assumption | (go_simp; done)); (repeat (first | assumption | exact Below.refl _ _ | refine below_set ?_ (by first | omega | (simp; done) | (simp; omega)) _ | refine below_drawn ?_ | refine below_drawnN ?_ _ | refine below_new ?_ _))))
  have a1_w5 : w5.cell? ⟨w.heap.size, 1, none⟩ = some (.int .i64 ad) := below_cell_of hb_w5 (by first | (go_simp; done) | (refine below_cell_of (w := w4) ?_ (by first | assumption | (go_simp; done)); (repeat (first | assumption | exact Below.refl _ _ | refine below_set ?_ (by first | omega | (simp; done) | (simp; omega)) _ | refine below_drawn ?_ | refine below_drawnN ?_ _ | refine below_new ?_ _))))
  have b0_w5 : w5.cell? ⟨w.heap.size + 1, 0, none⟩ = some (.int .i64 bn) := below_cell_of hb_w5 (by first | (go_simp; done) | (refine below_cell_of (w := w4) ?_ (by first | assumption | (go_simp; done)); (repeat (first | assumption | exact Below.refl _ _ | refine below_set ?_ (by first | omega | (simp; done) | (simp; omega)) _ | refine below_drawn ?_ | refine below_drawnN ?_ _ | refine below_new ?_ _))))
  have b1_w5 : w5.cell? ⟨w.heap.size + 1, 1, none⟩ = some (.int .i64 bd) := below_cell_of hb_w5 (by first | (go_simp; done) | (refine below_cell_of (w := w4) ?_ (by first | assumption | (go_simp; done)); (repeat (first | assumption | exact Below.refl _ _ | refine below_set ?_ (by first | omega | (simp; done) | (simp; omega)) _ | refine below_drawn ?_ | refine below_drawnN ?_ _ | refine below_new ?_ _))))
  have c0_w5 : w5.cell? ⟨w.heap.size + 2, 0, none⟩ = some (.int .i64 cn) := below_cell_of hb_w5 (by first | (go_simp; done) | (refine below_cell_of (w := w4) ?_ (by first | assumption | (go_simp; done)); (repeat (first | assumption | exact Below.refl _ _ | refine below_set ?_ (by first | omega | (simp; done) | (simp; omega)) _ | refine below_drawn ?_ | refine below_drawnN ?_ _ | refine below_new ?_ _))))
  have c1_w5 : w5.cell? ⟨w.heap.size + 2, 1, none⟩ = some (.int .i64 cd) := below_cell_of hb_w5 (by first | (go_simp; done) | (refine below_cell_of (w := w4) ?_ (by first | assumption | (go_simp; done)); (repeat (first | assumption | exact Below.refl _ _ | refine below_set ?_ (by first | omega | (simp; done) | (simp; omega)) _ | refine below_drawn ?_ | refine below_drawnN ?_ _ | refine below_new ?_ _))))
  go_wp2_with fail
  refine (cmp_any bn bd an ad _ (by omega) (by omega)).mono ?_
  rw [HN.out]
  rintro e w6 ⟨rfl, hb_w6⟩
  have hB_w6 : Below w.heap.size w w6 := below_on (by first | ((repeat (first | assumption | exact Below.refl _ _ | refine below_set ?_ (by first | omega | (simp; done) | (simp; omega)) _ | refine below_drawn ?_ | refine below_drawnN ?_ _ | refine below_new ?_ _)); done) | (refine below_on hB_w5 ?_; (repeat (first | assumption | exact Below.refl _ _ | refine below_set ?_ (by first | omega | (simp; done) | (simp; omega)) _ | refine below_drawn ?_ | refine below_drawnN ?_ _ | refine below_new ?_ _)))) hb_w6
  have hz_w6 := hb_w6.size
  try simp only [World.size_setCell] at hz_w6
  try simp only [World.size_drew] at hz_w6
  try simp only [World.size_drewN] at hz_w6
  try simp only [World.size_alloc] at hz_w6
  try simp only [World.size_setCell] at hz_w6
  try simp only [World.size_drew] at hz_w6
  try simp only [World.size_drewN] at hz_w6
  try simp only [World.size_alloc] at hz_w6
  have hl0_w6 : w.heap.size < w6.heap.size := by omega
  have hl1_w6 : w.heap.size + 1 < w6.heap.size := by omega
  have hl2_w6 : w.heap.size + 2 < w6.heap.size := by omega
  have a0_w6 : w6.cell? ⟨w.heap.size, 0, none⟩ = some (.int .i64 an) := below_cell_of hb_w6 (by first | (go_simp; done) | (refine below_cell_of (w := w5) ?_ (by first | assumption | (go_simp; done)); (repeat (first | assumption | exact Below.refl _ _ | refine below_set ?_ (by first | omega | (simp; done) | (simp; omega)) _ | refine below_drawn ?_ | refine below_drawnN ?_ _ | refine below_new ?_ _))))
  have a1_w6 : w6.cell? ⟨w.heap.size, 1, none⟩ = some (.int .i64 ad) := below_cell_of hb_w6 (by first | (go_simp; done) | (refine below_cell_of (w := w5) ?_ (by first | assumption | (go_simp; done)); (repeat (first | assumption | exact Below.refl _ _ | refine below_set ?_ (by first | omega | (simp; done) | (simp; omega)) _ | refine below_drawn ?_ | refine below_drawnN ?_ _ | refine below_new ?_ _))))
  have b0_w6 : w6.cell? ⟨w.heap.size + 1, 0, none⟩ = some (.int .i64 bn) := below_cell_of hb_w6 (by first | (go_simp; done) | (refine below_cell_of (w := w5) ?_ (by first | assumption | (go_simp; done)); (repeat (first | assumption | exact Below.refl _ _ | refine below_set ?_ (by first | omega | (simp; done) | (simp; omega)) _ | refine below_drawn ?_ | refine below_drawnN ?_ _ | refine below_new ?_ _))))
  have b1_w6 : w6.cell? ⟨w.heap.size + 1, 1, none⟩ = some (.int .i64 bd) := below_cell_of hb_w6 (by first | (go_simp; done) | (refine below_cell_of (w := w5) ?_ (by first | assumption | (go_simp; done)); (repeat (first | assumption | exact Below.refl _ _ | refine below_set ?_ (by first | omega | (simp; done) | (simp; omega)) _ | refine below_drawn ?_ | refine below_drawnN ?_ _ | refine below_new ?_ _))))
  have c0_w6 : w6.cell? ⟨w.heap.size + 2, 0, none⟩ = some (.int .i64 cn) := below_cell_of hb_w6 (by first | (go_simp; done) | (refine below_cell_of (w := w5) ?_ (by first | assumption | (go_simp; done)); (repeat (first | assumption | exact Below.refl _ _ | refine below_set ?_ (by first | omega | (simp; done) | (simp; omega)) _ | refine below_drawn ?_ | refine below_drawnN ?_ _ | refine below_new ?_ _))))
  have c1_w6 : w6.cell? ⟨w.heap.size + 2, 1, none⟩ = some (.int .i64 cd) := below_cell_of hb_w6 (by first | (go_simp; done) | (refine below_cell_of (w := w5) ?_ (by first | assumption | (go_simp; done)); (repeat (first | assumption | exact Below.refl _ _ | refine below_set ?_ (by first | omega | (simp; done) | (simp; omega)) _ | refine below_drawn ?_ | refine below_drawnN ?_ _ | refine below_new ?_ _))))
  go_wp2_with fail
  refine (cmp_any bn bd cn cd _ (by omega) (by omega)).mono ?_
  rw [HO.out]
  rintro e w7 ⟨rfl, hb_w7⟩
  have hB_w7 : Below w.heap.size w w7 := below_on (by first | ((repeat (first | assumption | exact Below.refl _ _ | refine below_set ?_ (by first | omega | (simp; done) | (simp; omega)) _ | refine below_drawn ?_ | refine below_drawnN ?_ _ | refine below_new ?_ _)); done) | (refine below_on hB_w6 ?_; (repeat (first | assumption | exact Below.refl _ _ | refine below_set ?_ (by first | omega | (simp; done) | (simp; omega)) _ | refine below_drawn ?_ | refine below_drawnN ?_ _ | refine below_new ?_ _)))) hb_w7
  have hz_w7 := hb_w7.size
  try simp only [World.size_setCell] at hz_w7
  try simp only [World.size_drew] at hz_w7
  try simp only [World.size_drewN] at hz_w7
  try simp only [World.size_alloc] at hz_w7
  try simp only [World.size_setCell] at hz_w7
  try simp only [World.size_drew] at hz_w7
  try simp only [World.size_drewN] at hz_w7
  try simp only [World.size_alloc] at hz_w7
  have hl0_w7 : w.heap.size < w7.heap.size := by omega
  have hl1_w7 : w.heap.size + 1 < w7.heap.size := by omega
  have hl2_w7 : w.heap.size + 2 < w7.heap.size := by omega
  have a0_w7 : w7.cell? ⟨w.heap.size, 0, none⟩ = some (.int .i64 an) := below_cell_of hb_w7 (by first | (go_simp; done) | (refine below_cell_of (w := w6) ?_ (by first | assumption | (go_simp; done)); (repeat (first | assumption | exact Below.refl _ _ | refine below_set ?_ (by first | omega | (simp; done) | (simp; omega)) _ | refine below_drawn ?_ | refine below_drawnN ?_ _ | refine below_new ?_ _))))
  have a1_w7 : w7.cell? ⟨w.heap.size, 1, none⟩ = some (.int .i64 ad) := below_cell_of hb_w7 (by first | (go_simp; done) | (refine below_cell_of (w := w6) ?_ (by first | assumption | (go_simp; done)); (repeat (first | assumption | exact Below.refl _ _ | refine below_set ?_ (by first | omega | (simp; done) | (simp; omega)) _ | refine below_drawn ?_ | refine below_drawnN ?_ _ | refine below_new ?_ _))))
  have b0_w7 : w7.cell? ⟨w.heap.size + 1, 0, none⟩ = some (.int .i64 bn) := below_cell_of hb_w7 (by first | (go_simp; done) | (refine below_cell_of (w := w6) ?_ (by first | assumption | (go_simp; done)); (repeat (first | assumption | exact Below.refl _ _ | refine below_set ?_ (by first | omega | (simp; done) | (simp; omega)) _ | refine below_drawn ?_ | refine below_drawnN ?_ _ | refine below_new ?_ _))))
  have b1_w7 : w7.cell? ⟨w.heap.size + 1, 1, none⟩ = some (.int .i64 bd) := below_cell_of hb_w7 (by first | (go_simp; done) | (refine below_cell_of (w := w6) ?_ (by first | assumption | (go_simp; done)); (repeat (first | assumption | exact Below.refl _ _ | refine below_set ?_ (by first | omega | (simp; done) | (simp; omega)) _ | refine below_drawn ?_ | refine below_drawnN ?_ _ | refine below_new ?_ _))))
  have c0_w7 : w7.cell? ⟨w.heap.size + 2, 0, none⟩ = some (.int .i64 cn) := below_cell_of hb_w7 (by first | (go_simp; done) | (refine below_cell_of (w := w6) ?_ (by first | assumption | (go_simp; done)); (repeat (first | assumption | exact Below.refl _ _ | refine below_set ?_ (by first | omega | (simp; done) | (simp; omega)) _ | refine below_drawn ?_ | refine below_drawnN ?_ _ | refine below_new ?_ _))))
  have c1_w7 : w7.cell? ⟨w.heap.size + 2, 1, none⟩ = some (.int .i64 cd) := below_cell_of hb_w7 (by first | (go_simp; done) | (refine below_cell_of (w := w6) ?_ (by first | assumption | (go_simp; done)); (repeat (first | assumption | exact Below.refl _ _ | refine below_set ?_ (by first | omega | (simp; done) | (simp; omega)) _ | refine below_drawn ?_ | refine below_drawnN ?_ _ | refine below_new ?_ _))))
  go_wp2_with fail
  refine (cmp_any an ad cn cd _ (by omega) (by omega)).mono ?_
  rw [HP.out]
  rintro e w8 ⟨rfl, hb_w8⟩
  have hB_w8 : Below w.heap.size w w8 := below_on (by first | ((repeat (first | assumption | exact Below.refl _ _ | refine below_set ?_ (by first | omega | (simp; done) | (simp; omega)) _ | refine below_drawn ?_ | refine below_drawnN ?_ _ | refine below_new ?_ _)); done) | (refine below_on hB_w7 ?_; (repeat (first | assumption | exact Below.refl _ _ | refine below_set ?_ (by first | omega | (simp; done) | (simp; omega)) _ | refine below_drawn ?_ | refine below_drawnN ?_ _ | refine below_new ?_ _)))) hb_w8
  have hz_w8 := hb_w8.size
  try simp only [World.size_setCell] at hz_w8
  try simp only [World.size_drew] at hz_w8
  try simp only [World.size_drewN] at hz_w8
  try simp only [World.size_alloc] at hz_w8
  try simp only [World.size_setCell] at hz_w8
  try simp only [World.size_drew] at hz_w8
  try simp only [World.size_drewN] at hz_w8
  try simp only [World.size_alloc] at hz_w8
  have hl0_w8 : w.heap.size < w8.heap.size := by omega
  have hl1_w8 : w.heap.size + 1 < w8.heap.size := by omega
  have hl2_w8 : w.heap.size + 2 < w8.heap.size := by omega
  have a0_w8 : w8.cell? ⟨w.heap.size, 0, none⟩ = some (.int .i64 an) := below_cell_of hb_w8 (by first | (go_simp; done) | (refine below_cell_of (w := w7) ?_ (by first | assumption | (go_simp; done)); (repeat (first | assumption | exact Below.refl _ _ | refine below_set ?_ (by first | omega | (simp; done) | (simp; omega)) _ | refine below_drawn ?_ | refine below_drawnN ?_ _ | refine below_new ?_ _))))
  have a1_w8 : w8.cell? ⟨w.heap.size, 1, none⟩ = some (.int .i64 ad) := below_cell_of hb_w8 (by first | (go_simp; done) | (refine below_cell_of (w := w7) ?_ (by first | assumption | (go_simp; done)); (repeat (first | assumption | exact Below.refl _ _ | refine below_set ?_ (by first | omega | (simp; done) | (simp; omega)) _ | refine below_drawn ?_ | refine below_drawnN ?_ _ | refine below_new ?_ _))))
  have b0_w8 : w8.cell? ⟨w.heap.size + 1, 0, none⟩ = some (.int .i64 bn) := below_cell_of hb_w8 (by first | (go_simp; done) | (refine below_cell_of (w := w7) ?_ (by first | assumption | (go_simp; done)); (repeat (first | assumption | exact Below.refl _ _ | refine below_set ?_ (by first | omega | (simp; done) | (simp; omega)) _ | refine below_drawn ?_ | refine below_drawnN ?_ _ | refine below_new ?_ _))))
  have b1_w8 : w8.cell? ⟨w.heap.size + 1, 1, none⟩ = some (.int .i64 bd) := below_cell_of hb_w8 (by first | (go_simp; done) | (refine below_cell_of (w := w7) ?_ (by first | assumption | (go_simp; done)); (repeat (first | assumption | exact Below.refl _ _ | refine below_set ?_ (by first | omega | (simp; done) | (simp; omega)) _ | refine below_drawn ?_ | refine below_drawnN ?_ _ | refine below_new ?_ _))))
  have c0_w8 : w8.cell? ⟨w.heap.size + 2, 0, none⟩ = some (.int .i64 cn) := below_cell_of hb_w8 (by first | (go_simp; done) | (refine below_cell_of (w := w7) ?_ (by first | assumption | (go_simp; done)); (repeat (first | assumption | exact Below.refl _ _ | refine below_set ?_ (by first | omega | (simp; done) | (simp; omega)) _ | refine below_drawn ?_ | refine below_drawnN ?_ _ | refine below_new ?_ _))))
  have c1_w8 : w8.cell? ⟨w.heap.size + 2, 1, none⟩ = some (.int .i64 cd) := below_cell_of hb_w8 (by first | (go_simp; done) | (refine below_cell_of (w := w7) ?_ (by first | assumption | (go_simp; done)); (repeat (first | assumption | exact Below.refl _ _ | refine below_set ?_ (by first | omega | (simp; done) | (simp; omega)) _ | refine below_drawn ?_ | refine below_drawnN ?_ _ | refine below_new ?_ _))))
  go_upto_region 8 with fail
  go_cut [7] (fun u wx => u = .bool true ∧ wx = w8)
  case first =>
    have hm3 : m = 1 ∨ m = 0 ∨ m = -1 := by omega
    have h3 : 0 < m ∨ (¬ 0 < m ∧ 0 < o) ∨ (¬ 0 < m ∧ ¬ 0 < o ∧ p ≤ 0) := by have := HT.out; omega
    have h4 : (m = 0 ∧ an = bn ∧ ad = bd) ∨ (m ≠ 0 ∧ ¬ an = bn) ∨ (m ≠ 0 ∧ an = bn ∧ ¬ ad = bd) := by
      have := HZ.out
      by_cases h : m = 0
      · exact .inl ⟨h, this.1 h⟩
      · by_cases k : an = bn
        · exact .inr (.inr ⟨h, k, fun e => h (this.2 ⟨k, e⟩)⟩)
        · exact .inr (.inl ⟨h, k⟩)
    have H3 := Lib.hid h3
    have H4 := Lib.hid h4
    clear h3 h4
    rcases hm3 with rfl | rfl | rfl
    · rcases H4.out with ⟨e, _⟩ | ⟨_, e1⟩ | ⟨_, e1, e2⟩
      · exact absurd e (by decide)
      · clear H3 H4
        go_wp2_with fail
        go_meet
        exact ⟨rfl, rfl⟩
      · subst e1
        clear H3 H4
        go_wp2_with fail
        go_meet
        exact ⟨rfl, rfl⟩
    · rcases H4.out with ⟨_, e1, e2⟩ | ⟨e, _⟩ | ⟨e, _⟩
      · subst e1
        subst e2
        rcases H3.out with k | ⟨_, k⟩ | ⟨_, k1, k2⟩
        · exact absurd k (by decide)
        · clear H3 H4
          go_wp2_with fail
          go_meet
          exact ⟨rfl, rfl⟩
        · clear H3 H4
          go_wp2_with fail
          go_meet
          exact ⟨rfl, rfl⟩
      · exact absurd rfl e
      · exact absurd rfl e
    · rcases H4.out with ⟨e, _⟩ | ⟨_, e1⟩ | ⟨_, e1, e2⟩
      · exact absurd e (by decide)
      · rcases H3.out with k | ⟨_, k⟩ | ⟨_, k1, k2⟩
        · exact absurd k (by decide)
        · clear H3 H4
          go_wp2_with fail
          go_meet
          exact ⟨rfl, rfl⟩
        · clear H3 H4
          go_wp2_with fail
          go_meet
          exact ⟨rfl, rfl⟩
      · subst e1
        rcases H3.out with k | ⟨_, k⟩ | ⟨_, k1, k2⟩
        · exact absurd k (by decide)
        · clear H3 H4
          go_wp2_with fail
          go_meet
          exact ⟨rfl, rfl⟩
        · clear H3 H4
          go_wp2_with fail
          go_meet
          exact ⟨rfl, rfl⟩
  case rest =>
    obtain ⟨rfl, rfl⟩ := hcut
    go_wp2_with fail
    refine (sub_any an ad bn bd _ (by omega) (by omega)).mono ?_
    rw [HD.out]
    rintro e w9 ⟨rfl, hb_w9⟩
    have hB_w9 : Below w.heap.size w w9 := below_on (by first | ((repeat (first | assumption | exact Below.refl _ _ | refine below_set ?_ (by first | omega | (simp; done) | (simp; omega)) _ | refine below_drawn ?_ | refine below_drawnN ?_ _ | refine below_new ?_ _)); done) | (refine below_on hB_w8 ?_; (repeat (first | assumption | exact Below.refl _ _ | refine below_set ?_ (by first | omega | (simp; done) | (simp; omega)) _ | refine below_drawn ?_ | refine below_drawnN ?_ _ | refine below_new ?_ _)))) hb_w9
    have hz_w9 := hb_w9.size
    try simp only [World.size_setCell] at hz_w9
    try simp only [World.size_drew] at hz_w9
    try simp only [World.size_drewN] at hz_w9
    try simp only [World.size_alloc] at hz_w9
    try simp only [World.size_setCell] at hz_w9
    try simp only [World.size_drew] at hz_w9
    try simp only [World.size_drewN] at hz_w9
    try simp only [World.size_alloc] at hz_w9
    have hl0_w9 : w.heap.size < w9.heap.size := by omega
    have hl1_w9 : w.heap.size + 1 < w9.heap.size := by omega
    have hl2_w9 : w.heap.size + 2 < w9.heap.size := by omega
    have a0_w9 : w9.cell? ⟨w.heap.size, 0, none⟩ = some (.int .i64 an) := below_cell_of hb_w9 (by first | (go_simp; done) | (refine below_cell_of (w := w8) ?_ (by first | assumption | (go_simp; done)); (repeat (first | assumption | exact Below.refl _ _ | refine below_set ?_ (by first | omega | (simp; done) | (simp; omega)) _ | refine below_drawn ?_ | refine below_drawnN ?_ _ | refine below_new ?_ _))))
    have a1_w9 : w9.cell? ⟨w.heap.size, 1, none⟩ = some (.int .i64 ad) := below_cell_of hb_w9 (by first | (go_simp; done) | (refine below_cell_of (w := w8) ?_ (by first | assumption | (go_simp; done)); (repeat (first | assumption | exact Below.refl _ _ | refine below_set ?_ (by first | omega | (simp; done) | (simp; omega)) _ | refine below_drawn ?_ | refine below_drawnN ?_ _ | refine below_new ?_ _))))
    have b0_w9 : w9.cell? ⟨w.heap.size + 1, 0, none⟩ = some (.int .i64 bn) := below_cell_of hb_w9 (by first | (go_simp; done) | (refine below_cell_of (w := w8) ?_ (by first | assumption | (go_simp; done)); (repeat (first | assumption | exact Below.refl _ _ | refine below_set ?_ (by first | omega | (simp; done) | (simp; omega)) _ | refine below_drawn ?_ | refine below_drawnN ?_ _ | refine below_new ?_ _))))
    have b1_w9 : w9.cell? ⟨w.heap.size + 1, 1, none⟩ = some (.int .i64 bd) := below_cell_of hb_w9 (by first | (go_simp; done) | (refine below_cell_of (w := w8) ?_ (by first | assumption | (go_simp; done)); (repeat (first | assumption | exact Below.refl _ _ | refine below_set ?_ (by first | omega | (simp; done) | (simp; omega)) _ | refine below_drawn ?_ | refine below_drawnN ?_ _ | refine below_new ?_ _))))
    have c0_w9 : w9.cell? ⟨w.heap.size + 2, 0, none⟩ = some (.int .i64 cn) := below_cell_of hb_w9 (by first | (go_simp; done) | (refine below_cell_of (w := w8) ?_ (by first | assumption | (go_simp; done)); (repeat (first | assumption | exact Below.refl _ _ | refine below_set ?_ (by first | omega | (simp; done) | (simp; omega)) _ | refine below_drawn ?_ | refine below_drawnN ?_ _ | refine below_new ?_ _))))
    have c1_w9 : w9.cell? ⟨w.heap.size + 2, 1, none⟩ = some (.int .i64 cd) := below_cell_of hb_w9 (by first | (go_simp; done) | (refine below_cell_of (w := w8) ?_ (by first | assumption | (go_simp; done)); (repeat (first | assumption | exact Below.refl _ _ | refine below_set ?_ (by first | omega | (simp; done) | (simp; omega)) _ | refine below_drawn ?_ | refine below_drawnN ?_ _ | refine below_new ?_ _))))
    go_upto_if 121 with fail
    go_cut [7] (fun u wx => u = .bool true ∧ wx = w9.alloc (.cells #[.int .i64 dn, .int .i64 dd] 23))
    case first =>
      rcases HSG.out with e | ⟨e, ⟨rfl, k⟩ | ⟨rfl, rfl⟩ | ⟨rfl, k⟩⟩
      · clear HSG
        go_wp2_with fail
        go_meet
        exact ⟨rfl, rfl⟩
      · clear HSG
        have k' : ¬ dn < 0 := by omega
        go_wp2_with fail
        go_meet
        exact ⟨rfl, rfl⟩
      · clear HSG
        go_wp2_with fail
        go_meet
        exact ⟨rfl, rfl⟩
      · clear HSG
        have k' : ¬ 0 < dn := by omega
        go_wp2_with fail
        go_meet
        exact ⟨rfl, rfl⟩
    case rest =>
      obtain ⟨rfl, rfl⟩ := hcut
      clear HSG
      go_wp2_with fail
      refine (add_any an ad cn cd _ (by omega) (by omega)).mono ?_
      rw [HS.out]
      rintro e w10 ⟨rfl, hb_w10⟩
      have hB_w10 : Below w.heap.size w w10 := below_on (by first | ((repeat (first | assumption | exact Below.refl _ _ | refine below_set ?_ (by first | omega | (simp; done) | (simp; omega)) _ | refine below_drawn ?_ | refine below_drawnN ?_ _ | refine below_new ?_ _)); done) | (refine below_on hB_w9 ?_; (repeat (first | assumption | exact Below.refl _ _ | refine below_set ?_ (by first | omega | (simp; done) | (simp; omega)) _ | refine below_drawn ?_ | refine below_drawnN ?_ _ | refine below_new ?_ _)))) hb_w10
      have hz_w10 := hb_w10.size
      try simp only [World.size_setCell] at hz_w10
      try simp only [World.size_drew] at hz_w10
      try simp only [World.size_drewN] at hz_w10
      try simp only [World.size_alloc] at hz_w10
      try simp only [World.size_setCell] at hz_w10
      try simp only [World.size_drew] at hz_w10
      try simp only [World.size_drewN] at hz_w10
      try simp only [World.size_alloc] at hz_w10
      have hl0_w10 : w.heap.size < w10.heap.size := by omega
      have hl1_w10 : w.heap.size + 1 < w10.heap.size := by omega
      have hl2_w10 : w.heap.size + 2 < w10.heap.size := by omega
      have hl3_w10 : w9.heap.size < w10.heap.size := by omega
      have a0_w10 : w10.cell? ⟨w.heap.size, 0, none⟩ = some (.int .i64 an) := below_cell_of hb_w10 (by first | (go_simp; done) | (refine below_cell_of (w := w9) ?_ (by first | assumption | (go_simp; done)); (repeat (first | assumption | exact Below.refl _ _ | refine below_set ?_ (by first | omega | (simp; done) | (simp; omega)) _ | refine below_drawn ?_ | refine below_drawnN ?_ _ | refine below_new ?_ _))))
      have a1_w10 : w10.cell? ⟨w.heap.size, 1, none⟩ = some (.int .i64 ad) := below_cell_of hb_w10 (by first | (go_simp; done) | (refine below_cell_of (w := w9) ?_ (by first | assumption | (go_simp; done)); (repeat (first | assumption | exact Below.refl _ _ | refine below_set ?_ (by first | omega | (simp; done) | (simp; omega)) _ | refine below_drawn ?_ | refine below_drawnN ?_ _ | refine below_new ?_ _))))
      have b0_w10 : w10.cell? ⟨w.heap.size + 1, 0, none⟩ = some (.int .i64 bn) := below_cell_of hb_w10 (by first | (go_simp; done) | (refine below_cell_of (w := w9) ?_ (by first | assumption | (go_simp; done)); (repeat (first | assumption | exact Below.refl _ _ | refine below_set ?_ (by first | omega | (simp; done) | (simp; omega)) _ | refine below_drawn ?_ | refine below_drawnN ?_ _ | refine below_new ?_ _))))
      have b1_w10 : w10.cell? ⟨w.heap.size + 1, 1, none⟩ = some (.int .i64 bd) := below_cell_of hb_w10 (by first | (go_simp; done) | (refine below_cell_of (w := w9) ?_ (by first | assumption | (go_simp; done)); (repeat (first | assumption | exact Below.refl _ _ | refine below_set ?_ (by first | omega | (simp; done) | (simp; omega)) _ | refine below_drawn ?_ | refine below_drawnN ?_ _ | refine below_new ?_ _))))
      have c0_w10 : w10.cell? ⟨w.heap.size + 2, 0, none⟩ = some (.int .i64 cn) := below_cell_of hb_w10 (by first | (go_simp; done) | (refine below_cell_of (w := w9) ?_ (by first | assumption | (go_simp; done)); (repeat (first | assumption | exact Below.refl _ _ | refine below_set ?_ (by first | omega | (simp; done) | (simp; omega)) _ | refine below_drawn ?_ | refine below_drawnN ?_ _ | refine below_new ?_ _))))
      have c1_w10 : w10.cell? ⟨w.heap.size + 2, 1, none⟩ = some (.int .i64 cd) := below_cell_of hb_w10 (by first | (go_simp; done) | (refine below_cell_of (w := w9) ?_ (by first | assumption | (go_simp; done)); (repeat (first | assumption | exact Below.refl _ _ | refine below_set ?_ (by first | omega | (simp; done) | (simp; omega)) _ | refine below_drawn ?_ | refine below_drawnN ?_ _ | refine below_new ?_ _))))
      have d0_w10 : w10.cell? ⟨w9.heap.size, 0, none⟩ = some (.int .i64 dn) := below_cell_of hb_w10 (by first | (go_simp; done) | (refine below_cell_of (w := w9) ?_ (by first | assumption | (go_simp; done)); (repeat (first | assumption | exact Below.refl _ _ | refine below_set ?_ (by first | omega | (simp; done) | (simp; omega)) _ | refine below_drawn ?_ | refine below_drawnN ?_ _ | refine below_new ?_ _))))
      have d1_w10 : w10.cell? ⟨w9.heap.size, 1, none⟩ = some (.int .i64 dd) := below_cell_of hb_w10 (by first | (go_simp; done) | (refine below_cell_of (w := w9) ?_ (by first | assumption | (go_simp; done)); (repeat (first | assumption | exact Below.refl _ _ | refine below_set ?_ (by first | omega | (simp; done) | (simp; omega)) _ | refine below_drawn ?_ | refine below_drawnN ?_ _ | refine below_new ?_ _))))
      go_wp2_with fail
      refine (add_any bn bd cn cd _ (by omega) (by omega)).mono ?_
      rw [HU.out]
      rintro e w11 ⟨rfl, hb_w11⟩
      have hB_w11 : Below w.heap.size w w11 := below_on (by first | ((repeat (first | assumption | exact Below.refl _ _ | refine below_set ?_ (by first | omega | (simp; done) | (simp; omega)) _ | refine below_drawn ?_ | refine below_drawnN ?_ _ | refine below_new ?_ _)); done) | (refine below_on hB_w10 ?_; (repeat (first | assumption | exact Below.refl _ _ | refine below_set ?_ (by first | omega | (simp; done) | (simp; omega)) _ | refine below_drawn ?_ | refine below_drawnN ?_ _ | refine below_new ?_ _)))) hb_w11
      have hz_w11 := hb_w11.size
      try simp only [World.size_setCell] at hz_w11
      try simp only [World.size_drew] at hz_w11
      try simp only [World.size_drewN] at hz_w11
      try simp only [World.size_alloc] at hz_w11
      try simp only [World.size_setCell] at hz_w11
      try simp only [World.size_drew] at hz_w11
      try simp only [World.size_drewN] at hz_w11
      try simp only [World.size_alloc] at hz_w11
      have hl0_w11 : w.heap.size < w11.heap.size := by omega
      have hl1_w11 : w.heap.size + 1 < w11.heap.size := by omega
      have hl2_w11 : w.heap.size + 2 < w11.heap.size := by omega
      have hl3_w11 : w9.heap.size < w11.heap.size := by omega
      have hl4_w11 : w10.heap.size < w11.heap.size := by omega
      have a0_w11 : w11.cell? ⟨w.heap.size, 0, none⟩ = some (.int .i64 an) := below_cell_of hb_w11 (by first | (go_simp; done) | (refine below_cell_of (w := w10) ?_ (by first | assumption | (go_simp; done)); (repeat (first | assumption | exact Below.refl _ _ | refine below_set ?_ (by first | omega | (simp; done) | (simp; omega)) _ | refine below_drawn ?_ | refine below_drawnN ?_ _ | refine below_new ?_ _))))
      have a1_w11 : w11.cell? ⟨w.heap.size, 1, none⟩ = some (.int .i64 ad) := below_cell_of hb_w11 (by first | (go_simp; done) | (refine below_cell_of (w := w10) ?_ (by first | assumption | (go_simp; done)); (repeat (first | assumption | exact Below.refl _ _ | refine below_set ?_ (by first | omega | (simp; done) | (simp; omega)) _ | refine below_drawn ?_ | refine below_drawnN ?_ _ | refine below_new ?_ _))))
      have b0_w11 : w11.cell? ⟨w.heap.size + 1, 0, none⟩ = some (.int .i64 bn) := below_cell_of hb_w11 (by first | (go_simp; done) | (refine below_cell_of (w := w10) ?_ (by first | assumption | (go_simp; done)); (repeat (first | assumption | exact Below.refl _ _ | refine below_set ?_ (by first | omega | (simp; done) | (simp; omega)) _ | refine below_drawn ?_ | refine below_drawnN ?_ _ | refine below_new ?_ _))))
      have b1_w11 : w11.cell? ⟨w.heap.size + 1, 1, none⟩ = some (.int .i64 bd) := below_cell_of hb_w11 (by first | (go_simp; done) | (refine below_cell_of (w := w10) ?_ (by first | assumption | (go_simp; done)); (repeat (first | assumption | exact Below.refl _ _ | refine below_set ?_ (by first | omega | (simp; done) | (simp; omega)) _ | refine below_drawn ?_ | refine below_drawnN ?_ _ | refine below_new ?_ _))))
      have c0_w11 : w11.cell? ⟨w.heap.size + 2, 0, none⟩ = some (.int .i64 cn) := below_cell_of hb_w11 (by first | (go_simp; done) | (refine below_cell_of (w := w10) ?_ (by first | assumption | (go_simp; done)); (repeat (first | assumption | exact Below.refl _ _ | refine below_set ?_ (by first | omega | (simp; done) | (simp; omega)) _ | refine below_drawn ?_ | refine below_drawnN ?_ _ | refine below_new ?_ _))))
      have c1_w11 : w11.cell? ⟨w.heap.size + 2, 1, none⟩ = some (.int .i64 cd) := below_cell_of hb_w11 (by first | (go_simp; done) | (refine below_cell_of (w := w10) ?_ (by first | assumption | (go_simp; done)); (repeat (first | assumption | exact Below.refl _ _ | refine below_set ?_ (by first | omega | (simp; done) | (simp; omega)) _ | refine below_drawn ?_ | refine below_drawnN ?_ _ | refine below_new ?_ _))))
      have d0_w11 : w11.cell? ⟨w9.heap.size, 0, none⟩ = some (.int .i64 dn) := below_cell_of hb_w11 (by first | (go_simp; done) | (refine below_cell_of (w := w10) ?_ (by first | assumption | (go_simp; done)); (repeat (first | assumption | exact Below.refl _ _ | refine below_set ?_ (by first | omega | (simp; done) | (simp; omega)) _ | refine below_drawn ?_ | refine below_drawnN ?_ _ | refine below_new ?_ _))))
      have d1_w11 : w11.cell? ⟨w9.heap.size, 1, none⟩ = some (.int .i64 dd) := below_cell_of hb_w11 (by first | (go_simp; done) | (refine below_cell_of (w := w10) ?_ (by first | assumption | (go_simp; done)); (repeat (first | assumption | exact Below.refl _ _ | refine below_set ?_ (by first | omega | (simp; done) | (simp; omega)) _ | refine below_drawn ?_ | refine below_drawnN ?_ _ | refine below_new ?_ _))))
      have s0_w11 : w11.cell? ⟨w10.heap.size, 0, none⟩ = some (.int .i64 sn) := below_cell_of hb_w11 (by first | (go_simp; done) | (refine below_cell_of (w := w10) ?_ (by first | assumption | (go_simp; done)); (repeat (first | assumption | exact Below.refl _ _ | refine below_set ?_ (by first | omega | (simp; done) | (simp; omega)) _ | refine below_drawn ?_ | refine below_drawnN ?_ _ | refine below_new ?_ _))))
      have s1_w11 : w11.cell? ⟨w10.heap.size, 1, none⟩ = some (.int .i64 sd) := below_cell_of hb_w11 (by first | (go_simp; done) | (refine below_cell_of (w := w10) ?_ (by first | assumption | (go_simp; done)); (repeat (first | assumption | exact Below.refl _ _ | refine below_set ?_ (by first | omega | (simp; done) | (simp; omega)) _ | refine below_drawn ?_ | refine below_drawnN ?_ _ | refine below_new ?_ _))))
      go_wp2_with fail
      refine (cmp_any sn sd tn td _ (by omega) (by omega)).mono ?_
      rw [HQ.out]
      rintro e w12 ⟨rfl, hb_w12⟩
      have hB_w12 : Below w.heap.size w w12 := below_on (by first | ((repeat (first | assumption | exact Below.refl _ _ | refine below_set ?_ (by first | omega | (simp; done) | (simp; omega)) _ | refine below_drawn ?_ | refine below_drawnN ?_ _ | refine below_new ?_ _)); done) | (refine below_on hB_w11 ?_; (repeat (first | assumption | exact Below.refl _ _ | refine below_set ?_ (by first | omega | (simp; done) | (simp; omega)) _ | refine below_drawn ?_ | refine below_drawnN ?_ _ | refine below_new ?_ _)))) hb_w12
      have hz_w12 := hb_w12.size
      try simp only [World.size_setCell] at hz_w12
      try simp only [World.size_drew] at hz_w12
      try simp only [World.size_drewN] at hz_w12
      try simp only [World.size_alloc] at hz_w12
      try simp only [World.size_setCell] at hz_w12
      try simp only [World.size_drew] at hz_w12
      try simp only [World.size_drewN] at hz_w12
      try simp only [World.size_alloc] at hz_w12
      have hl0_w12 : w.heap.size < w12.heap.size := by omega
      have hl1_w12 : w.heap.size + 1 < w12.heap.size := by omega
      have hl2_w12 : w.heap.size + 2 < w12.heap.size := by omega
      have hl3_w12 : w9.heap.size < w12.heap.size := by omega
      have hl4_w12 : w10.heap.size < w12.heap.size := by omega
      have hl5_w12 : w11.heap.size < w12.heap.size := by omega
      have a0_w12 : w12.cell? ⟨w.heap.size, 0, none⟩ = some (.int .i64 an) := below_cell_of hb_w12 (by first | (go_simp; done) | (refine below_cell_of (w := w11) ?_ (by first | assumption | (go_simp; done)); (repeat (first | assumption | exact Below.refl _ _ | refine below_set ?_ (by first | omega | (simp; done) | (simp; omega)) _ | refine below_drawn ?_ | refine below_drawnN ?_ _ | refine below_new ?_ _))))
      have a1_w12 : w12.cell? ⟨w.heap.size, 1, none⟩ = some (.int .i64 ad) := below_cell_of hb_w12 (by first | (go_simp; done) | (refine below_cell_of (w := w11) ?_ (by first | assumption | (go_simp; done)); (repeat (first | assumption | exact Below.refl _ _ | refine below_set ?_ (by first | omega | (simp; done) | (simp; omega)) _ | refine below_drawn ?_ | refine below_drawnN ?_ _ | refine below_new ?_ _))))
      have b0_w12 : w12.cell? ⟨w.heap.size + 1, 0, none⟩ = some (.int .i64 bn) := below_cell_of hb_w12 (by first | (go_simp; done) | (refine below_cell_of (w := w11) ?_ (by first | assumption | (go_simp; done)); (repeat (first | assumption | exact Below.refl _ _ | refine below_set ?_ (by first | omega | (simp; done) | (simp; omega)) _ | refine below_drawn ?_ | refine below_drawnN ?_ _ | refine below_new ?_ _))))
      have b1_w12 : w12.cell? ⟨w.heap.size + 1, 1, none⟩ = some (.int .i64 bd) := below_cell_of hb_w12 (by first | (go_simp; done) | (refine below_cell_of (w := w11) ?_ (by first | assumption | (go_simp; done)); (repeat (first | assumption | exact Below.refl _ _ | refine below_set ?_ (by first | omega | (simp; done) | (simp; omega)) _ | refine below_drawn ?_ | refine below_drawnN ?_ _ | refine below_new ?_ _))))
      have c0_w12 : w12.cell? ⟨w.heap.size + 2, 0, none⟩ = some (.int .i64 cn) := below_cell_of hb_w12 (by first | (go_simp; done) | (refine below_cell_of (w := w11) ?_ (by first | assumption | (go_simp; done)); (repeat (first | assumption | exact Below.refl _ _ | refine below_set ?_ (by first | omega | (simp; done) | (simp; omega)) _ | refine below_drawn ?_ | refine below_drawnN ?_ _ | refine below_new ?_ _))))
      have c1_w12 : w12.cell? ⟨w.heap.size + 2, 1, none⟩ = some (.int .i64 cd) := below_cell_of hb_w12 (by first | (go_simp; done) | (refine below_cell_of (w := w11) ?_ (by first | assumption | (go_simp; done)); (repeat (first | assumption | exact Below.refl _ _ | refine below_set ?_ (by first | omega | (simp; done) | (simp; omega)) _ | refine below_drawn ?_ | refine below_drawnN ?_ _ | refine below_new ?_ _))))
      have d0_w12 : w12.cell? ⟨w9.heap.size, 0, none⟩ = some (.int .i64 dn) := below_cell_of hb_w12 (by first | (go_simp; done) | (refine below_cell_of (w := w11) ?_ (by first | assumption | (go_simp; done)); (repeat (first | assumption | exact Below.refl _ _ | refine below_set ?_ (by first | omega | (simp; done) | (simp; omega)) _ | refine below_drawn ?_ | refine below_drawnN ?_ _ | refine below_new ?_ _))))
      have d1_w12 : w12.cell? ⟨w9.heap.size, 1, none⟩ = some (.int .i64 dd) := below_cell_of hb_w12 (by first | (go_simp; done) | (refine below_cell_of (w := w11) ?_ (by first | assumption | (go_simp; done)); (repeat (first | assumption | exact Below.refl _ _ | refine below_set ?_ (by first | omega | (simp; done) | (simp; omega)) _ | refine below_drawn ?_ | refine below_drawnN ?_ _ | refine below_new ?_ _))))
      have s0_w12 : w12.cell? ⟨w10.heap.size, 0, none⟩ = some (.int .i64 sn) := below_cell_of hb_w12 (by first | (go_simp; done) | (refine below_cell_of (w := w11) ?_ (by first | assumption | (go_simp; done)); (repeat (first | assumption | exact Below.refl _ _ | refine below_set ?_ (by first | omega | (simp; done) | (simp; omega)) _ | refine below_drawn ?_ | refine below_drawnN ?_ _ | refine below_new ?_ _))))
      have s1_w12 : w12.cell? ⟨w10.heap.size, 1, none⟩ = some (.int .i64 sd) := below_cell_of hb_w12 (by first | (go_simp; done) | (refine below_cell_of (w := w11) ?_ (by first | assumption | (go_simp; done)); (repeat (first | assumption | exact Below.refl _ _ | refine below_set ?_ (by first | omega | (simp; done) | (simp; omega)) _ | refine below_drawn ?_ | refine below_drawnN ?_ _ | refine below_new ?_ _))))
      have t0_w12 : w12.cell? ⟨w11.heap.size, 0, none⟩ = some (.int .i64 tn) := below_cell_of hb_w12 (by first | (go_simp; done) | (refine below_cell_of (w := w11) ?_ (by first | assumption | (go_simp; done)); (repeat (first | assumption | exact Below.refl _ _ | refine below_set ?_ (by first | omega | (simp; done) | (simp; omega)) _ | refine below_drawn ?_ | refine below_drawnN ?_ _ | refine below_new ?_ _))))
      have t1_w12 : w12.cell? ⟨w11.heap.size, 1, none⟩ = some (.int .i64 td) := below_cell_of hb_w12 (by first | (go_simp; done) | (refine below_cell_of (w := w11) ?_ (by first | assumption | (go_simp; done)); (repeat (first | assumption | exact Below.refl _ _ | refine below_set ?_ (by first | omega | (simp; done) | (simp; omega)) _ | refine below_drawn ?_ | refine below_drawnN ?_ _ | refine below_new ?_ _))))
      rcases HF.out with e | ⟨e1, e2⟩ | ⟨e1, e2, rfl, rfl⟩
      · clear HF
        go_wp2
        go_ret
        exact ⟨rfl, by (repeat (first | assumption | exact Below.refl _ _ | refine below_set ?_ (by first | omega | (simp; done) | (simp; omega)) _ | refine below_drawn ?_ | refine below_drawnN ?_ _ | refine below_new ?_ _))⟩
      · clear HF
        go_wp2
        go_ret
        exact ⟨rfl, by (repeat (first | assumption | exact Below.refl _ _ | refine below_set ?_ (by first | omega | (simp; done) | (simp; omega)) _ | refine below_drawn ?_ | refine below_drawnN ?_ _ | refine below_new ?_ _))⟩
      · clear HF
        go_wp2
        go_ret
        exact ⟨rfl, by (repeat (first | assumption | exact Below.refl _ _ | refine below_set ?_ (by first | omega | (simp; done) | (simp; omega)) _ | refine below_drawn ?_ | refine below_drawnN ?_ _ | refine below_new ?_ _))⟩
theorem op_le (an ad bn bd n d : Int) : (Rt.op an ad bn bd n d).1 ≤ 1000000000 := by
  unfold Rt.op
  split
  · split
    · show (0 : Int) ≤ 1000000000
      omega
    · unfold Rt.red
      split
      · rename_i h
        exact (Rt.fits_bd h).2.1
      · show (0 : Int) ≤ 1000000000
        omega
  · show (0 : Int) ≤ 1000000000
    omega
theorem order_entry (an ad bn bd cn cd : Int) (w : World) (_ka : an ≤ 9223372036854775807) (_kb : bn ≤ 9223372036854775807) (_kc : cn ≤ 9223372036854775807) : Calls Try.prog 7 #[.agg #[.int .i64 an, .int .i64 ad], .agg #[.int .i64 bn, .int .i64 bd], .agg #[.int .i64 cn, .int .i64 cd]] w fun e w' => e = .returned (.bool true) ∧ Below w.heap.size w w' := by
  cases ha : Rt.valid an ad with
  | false => exact order_bad1 an ad bn bd cn cd w ha
  | true =>
    cases hb : Rt.valid bn bd with
    | false => exact order_bad2 an ad bn bd cn cd w ha hb
    | true =>
      cases hc : Rt.valid cn cd with
      | false => exact order_bad3 an ad bn bd cn cd w ha hb hc
      | true =>
        have k1 := Rt.sg_range (Rt.V an ad) (Rt.V bn bd)
        have k2 := Rt.sg_trans (Rt.V an ad) (Rt.V bn bd) (Rt.V cn cd)
        refine order_walk an ad bn bd cn cd (Rt.sg (Rt.V an ad) (Rt.V bn bd)) (Rt.sg (Rt.V bn bd) (Rt.V cn cd)) (Rt.sg (Rt.V an ad) (Rt.V cn cd)) (Rt.sub an ad bn bd).1 (Rt.sub an ad bn bd).2.1 (Rt.sub an ad bn bd).2.2 (Rt.add an ad cn cd).1 (Rt.add an ad cn cd).2.1 (Rt.add an ad cn cd).2.2 (Rt.add bn bd cn cd).1 (Rt.add bn bd cn cd).2.1 (Rt.add bn bd cn cd).2.2 (Rt.cmp (Rt.add an ad cn cd).1 (Rt.add an ad cn cd).2.1 (Rt.add bn bd cn cd).1 (Rt.add bn bd cn cd).2.1).1 (Rt.cmp (Rt.add an ad cn cd).1 (Rt.add an ad cn cd).2.1 (Rt.add bn bd cn cd).1 (Rt.add bn bd cn cd).2.1).2 w ha hb hc (Rt.valid_bd ha).2.1 (Rt.valid_bd hb).2.1 (Rt.valid_bd hc).2.1 (Rt.cmp_sg ha hb) (by rw [Rt.cmp_sg hb ha, Rt.sg_swap]) (Rt.cmp_sg hb hc) (Rt.cmp_sg ha hc) k1.1 k1.2 ?_ k2 rfl ?_ rfl rfl (op_le _ _ _ _ _ _) (op_le _ _ _ _ _ _) rfl ?_
        · rw [Rt.sg_zero]
          exact ⟨Rt.V_inj ha hb, fun h => by rw [h.1, h.2]⟩
        · by_cases h : (Rt.sub an ad bn bd).2.2 = 0
          · refine .inr ⟨by simpa using h, ?_⟩
            obtain ⟨s1, s2⟩ := Rt.sub_sign h
            have h3 : Rt.sg (Rt.V an ad) (Rt.V bn bd) = 1 ∨ Rt.sg (Rt.V an ad) (Rt.V bn bd) = 0 ∨ Rt.sg (Rt.V an ad) (Rt.V bn bd) = -1 := by omega
            rcases h3 with e | e | e
            · exact .inl ⟨e, s1.2 (by omega)⟩
            · exact .inr (.inl ⟨e, by omega⟩)
            · exact .inr (.inr ⟨e, s2.2 (by omega)⟩)
          · exact .inl (by simpa using h)
        · by_cases h : (Rt.add an ad cn cd).2.2 = 0
          · by_cases k : (Rt.add bn bd cn cd).2.2 = 0
            · obtain ⟨_, _, v1, e1⟩ := Rt.add_ok h
              obtain ⟨_, _, v2, e2⟩ := Rt.add_ok k
              refine .inr (.inr ⟨by simpa using h, by simpa using k, ?_⟩)
              rw [Rt.cmp_sg v1 v2, e1, e2]
              exact ⟨rfl, Rt.sg_add _ _ _⟩
            · exact .inr (.inl ⟨by simpa using h, by simpa using k⟩)
          · exact .inl (by simpa using h)
end Go.Proofs.Ytjnjokkhkfdaiaa
