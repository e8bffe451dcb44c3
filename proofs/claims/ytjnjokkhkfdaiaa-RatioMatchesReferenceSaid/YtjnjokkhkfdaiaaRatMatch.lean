/- The statement RatioMatchesReference: it returns true, whatever the input, and leaves what was in memory alone. -/
import Derived.Test.YtjnjokkhkfdaiaaRatHead
namespace Go.Proofs.Ytjnjokkhkfdaiaa
open Go.RowKit

set_option maxHeartbeats 4000000 in
set_option maxRecDepth 100000 in
theorem match_walk (an ad bn bd num den x0 y0 z0 x1 y1 z1 x2 y2 z2 x3 y3 z3 x4 y4 z4 x5 y5 : Int) (w : World) (v : Bool) (ka : an ≤ 9223372036854775807) (kb : bn ≤ 9223372036854775807) (hnew : Rt.new num den = (x0, y0, z0)) (hadd : Rt.add an ad bn bd = (x1, y1, z1)) (hsub : Rt.sub an ad bn bd = (x2, y2, z2)) (hmul : Rt.mul an ad bn bd = (x3, y3, z3)) (hdiv : Rt.div an ad bn bd = (x4, y4, z4)) (hcmp : Rt.cmp an ad bn bd = (x5, y5)) (hval : Rt.valid an ad = v) : Calls Try.prog 3 #[.agg #[.int .i64 an, .int .i64 ad], .agg #[.int .i64 bn, .int .i64 bd], .int .i64 num, .int .i64 den] w fun e w' => e = .returned (.bool true) ∧ Below w.heap.size w w' := by
  have HNEW := Lib.hid hnew
  have HADD := Lib.hid hadd
  have HSUB := Lib.hid hsub
  have HMUL := Lib.hid hmul
  have HDIV := Lib.hid hdiv
  have HCMP := Lib.hid hcmp
  have HVAL := Lib.hid hval
  clear hnew hadd hsub hmul hdiv hcmp hval
  go_enter Try.func3, Try.ntmps3
  go_wp2_with fail
  refine (head_ok _).mono ?_
  rintro e w1 ⟨rfl, hb_w1⟩
  have hB_w1 : Below w.heap.size w w1 := below_on (by (repeat (first | assumption | exact Below.refl _ _ | refine below_set ?_ (by first | omega | (simp; done) | (simp; omega)) _ | refine below_drawn ?_ | refine below_drawnN ?_ _ | refine below_new ?_ _))) hb_w1
  have hz_w1 := hb_w1.size
  try simp only [World.size_setCell] at hz_w1
  try simp only [World.size_drew] at hz_w1
  try simp only [World.size_drewN] at hz_w1
  try simp only [World.size_alloc] at hz_w1
  try simp only [World.size_setCell] at hz_w1
  try simp only [World.size_drew] at hz_w1
  try simp only [World.size_drewN] at hz_w1
  try simp only [World.size_alloc] at hz_w1
  have hl0_w1 : w.heap.size < w1.heap.size := by omega
  have hl1_w1 : w.heap.size + 1 < w1.heap.size := by omega
  have a0_w1 : w1.cell? ⟨w.heap.size, 0, none⟩ = some (.int .i64 an) := below_cell_of hb_w1 (by first | (go_simp; done) | (refine below_cell_of (w := w) ?_ (by first | assumption | (go_simp; done)); (repeat (first | assumption | exact Below.refl _ _ | refine below_set ?_ (by first | omega | (simp; done) | (simp; omega)) _ | refine below_drawn ?_ | refine below_drawnN ?_ _ | refine below_new ?_ _))))
  have a1_w1 : w1.cell? ⟨w.heap.size, 1, none⟩ = some (.int .i64 ad) := below_cell_of hb_w1 (by first | (go_simp; done) | (refine below_cell_of (w := w) ?_ (by first | assumption | (go_simp; done)); (repeat (first | assumption | exact Below.refl _ _ | refine below_set ?_ (by first | omega | (simp; done) | (simp; omega)) _ | refine below_drawn ?_ | refine below_drawnN ?_ _ | refine below_new ?_ _))))
  have b0_w1 : w1.cell? ⟨w.heap.size + 1, 0, none⟩ = some (.int .i64 bn) := below_cell_of hb_w1 (by first | (go_simp; done) | (refine below_cell_of (w := w) ?_ (by first | assumption | (go_simp; done)); (repeat (first | assumption | exact Below.refl _ _ | refine below_set ?_ (by first | omega | (simp; done) | (simp; omega)) _ | refine below_drawn ?_ | refine below_drawnN ?_ _ | refine below_new ?_ _))))
  have b1_w1 : w1.cell? ⟨w.heap.size + 1, 1, none⟩ = some (.int .i64 bd) := below_cell_of hb_w1 (by first | (go_simp; done) | (refine below_cell_of (w := w) ?_ (by first | assumption | (go_simp; done)); (repeat (first | assumption | exact Below.refl _ _ | refine below_set ?_ (by first | omega | (simp; done) | (simp; omega)) _ | refine below_drawn ?_ | refine below_drawnN ?_ _ | refine below_new ?_ _))))
  go_wp2_with fail
  refine (new_any num den _).mono ?_
  rw [HNEW.out]
  rintro e w2 ⟨rfl, hb_w2⟩
  have hB_w2 : Below w.heap.size w w2 := below_on (by first | ((repeat (first | assumption | exact Below.refl _ _ | refine below_set ?_ (by first | omega | (simp; done) | (simp; omega)) _ | refine below_drawn ?_ | refine below_drawnN ?_ _ | refine below_new ?_ _)); done) | (refine below_on hB_w1 ?_; (repeat (first | assumption | exact Below.refl _ _ | refine below_set ?_ (by first | omega | (simp; done) | (simp; omega)) _ | refine below_drawn ?_ | refine below_drawnN ?_ _ | refine below_new ?_ _)))) hb_w2
  have hz_w2 := hb_w2.size
  try simp only [World.size_setCell] at hz_w2
  try simp only [World.size_drew] at hz_w2
  try simp only [World.size_drewN] at hz_w2
  try simp only [World.size_alloc] at hz_w2
  try simp only [World.size_setCell] at hz_w2
  try simp only [World.size_drew] at hz_w2
  try simp only [World.size_drewN] at hz_w2
  try simp only [World.size_alloc] at hz_w2
  have hl0_w2 : w.heap.size < w2.heap.size := by omega
  have hl1_w2 : w.heap.size + 1 < w2.heap.size := by omega
  have a0_w2 : w2.cell? ⟨w.heap.size, 0, none⟩ = some (.int .i64 an) := below_cell_of hb_w2 (by first | (go_simp; done) | (refine below_cell_of (w := w1) ?_ (by first | assumption | (go_simp; done)); (repeat (first | assumption | exact Below.refl _ _ | refine below_set ?_ (by first | omega | (simp; done) | (simp; omega)) _ | refine below_drawn ?_ | refine below_drawnN ?_ _ | refine below_new ?_ _))))
  have a1_w2 : w2.cell? ⟨w.heap.size, 1, none⟩ = some (.int .i64 ad) := below_cell_of hb_w2 (by first | (go_simp; done) | (refine below_cell_of (w := w1) ?_ (by first | assumption | (go_simp; done)); (repeat (first | assumption | exact Below.refl _ _ | refine below_set ?_ (by first | omega | (simp; done) | (simp; omega)) _ | refine below_drawn ?_ | refine below_drawnN ?_ _ | refine below_new ?_ _))))
  have b0_w2 : w2.cell? ⟨w.heap.size + 1, 0, none⟩ = some (.int .i64 bn) := below_cell_of hb_w2 (by first | (go_simp; done) | (refine below_cell_of (w := w1) ?_ (by first | assumption | (go_simp; done)); (repeat (first | assumption | exact Below.refl _ _ | refine below_set ?_ (by first | omega | (simp; done) | (simp; omega)) _ | refine below_drawn ?_ | refine below_drawnN ?_ _ | refine below_new ?_ _))))
  have b1_w2 : w2.cell? ⟨w.heap.size + 1, 1, none⟩ = some (.int .i64 bd) := below_cell_of hb_w2 (by first | (go_simp; done) | (refine below_cell_of (w := w1) ?_ (by first | assumption | (go_simp; done)); (repeat (first | assumption | exact Below.refl _ _ | refine below_set ?_ (by first | omega | (simp; done) | (simp; omega)) _ | refine below_drawn ?_ | refine below_drawnN ?_ _ | refine below_new ?_ _))))
  go_wp2_with fail
  refine (rnew_any num den _).mono ?_
  rw [HNEW.out]
  rintro e w3 ⟨rfl, hb_w3⟩
  have hB_w3 : Below w.heap.size w w3 := below_on (by first | ((repeat (first | assumption | exact Below.refl _ _ | refine below_set ?_ (by first | omega | (simp; done) | (simp; omega)) _ | refine below_drawn ?_ | refine below_drawnN ?_ _ | refine below_new ?_ _)); done) | (refine below_on hB_w2 ?_; (repeat (first | assumption | exact Below.refl _ _ | refine below_set ?_ (by first | omega | (simp; done) | (simp; omega)) _ | refine below_drawn ?_ | refine below_drawnN ?_ _ | refine below_new ?_ _)))) hb_w3
  have hz_w3 := hb_w3.size
  try simp only [World.size_setCell] at hz_w3
  try simp only [World.size_drew] at hz_w3
  try simp only [World.size_drewN] at hz_w3
  try simp only [World.size_alloc] at hz_w3
  try simp only [World.size_setCell] at hz_w3
  try simp only [World.size_drew] at hz_w3
  try simp only [World.size_drewN] at hz_w3
  try simp only [World.size_alloc] at hz_w3
  have hl0_w3 : w.heap.size < w3.heap.size := by omega
  have hl1_w3 : w.heap.size + 1 < w3.heap.size := by omega
  have hl2_w3 : w2.heap.size < w3.heap.size := by omega
  have a0_w3 : w3.cell? ⟨w.heap.size, 0, none⟩ = some (.int .i64 an) := below_cell_of hb_w3 (by first | (go_simp; done) | (refine below_cell_of (w := w2) ?_ (by first | assumption | (go_simp; done)); (repeat (first | assumption | exact Below.refl _ _ | refine below_set ?_ (by first | omega | (simp; done) | (simp; omega)) _ | refine below_drawn ?_ | refine below_drawnN ?_ _ | refine below_new ?_ _))))
  have a1_w3 : w3.cell? ⟨w.heap.size, 1, none⟩ = some (.int .i64 ad) := below_cell_of hb_w3 (by first | (go_simp; done) | (refine below_cell_of (w := w2) ?_ (by first | assumption | (go_simp; done)); (repeat (first | assumption | exact Below.refl _ _ | refine below_set ?_ (by first | omega | (simp; done) | (simp; omega)) _ | refine below_drawn ?_ | refine below_drawnN ?_ _ | refine below_new ?_ _))))
  have b0_w3 : w3.cell? ⟨w.heap.size + 1, 0, none⟩ = some (.int .i64 bn) := below_cell_of hb_w3 (by first | (go_simp; done) | (refine below_cell_of (w := w2) ?_ (by first | assumption | (go_simp; done)); (repeat (first | assumption | exact Below.refl _ _ | refine below_set ?_ (by first | omega | (simp; done) | (simp; omega)) _ | refine below_drawn ?_ | refine below_drawnN ?_ _ | refine below_new ?_ _))))
  have b1_w3 : w3.cell? ⟨w.heap.size + 1, 1, none⟩ = some (.int .i64 bd) := below_cell_of hb_w3 (by first | (go_simp; done) | (refine below_cell_of (w := w2) ?_ (by first | assumption | (go_simp; done)); (repeat (first | assumption | exact Below.refl _ _ | refine below_set ?_ (by first | omega | (simp; done) | (simp; omega)) _ | refine below_drawn ?_ | refine below_drawnN ?_ _ | refine below_new ?_ _))))
  have s0_w3 : w3.cell? ⟨w2.heap.size, 0, none⟩ = some (.int .i64 x0) := below_cell_of hb_w3 (by first | (go_simp; done) | (refine below_cell_of (w := w2) ?_ (by first | assumption | (go_simp; done)); (repeat (first | assumption | exact Below.refl _ _ | refine below_set ?_ (by first | omega | (simp; done) | (simp; omega)) _ | refine below_drawn ?_ | refine below_drawnN ?_ _ | refine below_new ?_ _))))
  have fzs0_w3 : w3.frozen? ⟨w2.heap.size, 0, none⟩ = false := below_frozen_of hb_w3 (by first | omega | (simp; done) | (simp; omega)) (by first | (go_simp; done) | (refine below_frozen_of (w := w2) ?_ (by omega) (by first | assumption | (go_simp; done)); (repeat (first | assumption | exact Below.refl _ _ | refine below_set ?_ (by first | omega | (simp; done) | (simp; omega)) _ | refine below_drawn ?_ | refine below_drawnN ?_ _ | refine below_new ?_ _))))
  have s1_w3 : w3.cell? ⟨w2.heap.size, 1, none⟩ = some (.int .i64 y0) := below_cell_of hb_w3 (by first | (go_simp; done) | (refine below_cell_of (w := w2) ?_ (by first | assumption | (go_simp; done)); (repeat (first | assumption | exact Below.refl _ _ | refine below_set ?_ (by first | omega | (simp; done) | (simp; omega)) _ | refine below_drawn ?_ | refine below_drawnN ?_ _ | refine below_new ?_ _))))
  have fzs1_w3 : w3.frozen? ⟨w2.heap.size, 1, none⟩ = false := below_frozen_of hb_w3 (by first | omega | (simp; done) | (simp; omega)) (by first | (go_simp; done) | (refine below_frozen_of (w := w2) ?_ (by omega) (by first | assumption | (go_simp; done)); (repeat (first | assumption | exact Below.refl _ _ | refine below_set ?_ (by first | omega | (simp; done) | (simp; omega)) _ | refine below_drawn ?_ | refine below_drawnN ?_ _ | refine below_new ?_ _))))
  go_wp2_with fail
  refine (add_any an ad bn bd _ ka kb).mono ?_
  rw [HADD.out]
  rintro e w4 ⟨rfl, hb_w4⟩
  have hB_w4 : Below w.heap.size w w4 := below_on (by first | ((repeat (first | assumption | exact Below.refl _ _ | refine below_set ?_ (by first | omega | (simp; done) | (simp; omega)) _ | refine below_drawn ?_ | refine below_drawnN ?_ _ | refine below_new ?_ _)); done) | (refine below_on hB_w3 ?_; (repeat (first | assumption | exact Below.refl _ _ | refine below_set ?_ (by first | omega | (simp; done) | (simp; omega)) _ | refine below_drawn ?_ | refine below_drawnN ?_ _ | refine below_new ?_ _)))) hb_w4
  have hz_w4 := hb_w4.size
  try simp only [World.size_setCell] at hz_w4
  try simp only [World.size_drew] at hz_w4
  try simp only [World.size_drewN] at hz_w4
  try simp only [World.size_alloc] at hz_w4
  try simp only [World.size_setCell] at hz_w4
  try simp only [World.size_drew] at hz_w4
  try simp only [World.size_drewN] at hz_w4
  try simp only [World.size_alloc] at hz_w4
  have hl0_w4 : w.heap.size < w4.heap.size := by omega
  have hl1_w4 : w.heap.size + 1 < w4.heap.size := by omega
  have hl2_w4 : w2.heap.size < w4.heap.size := by omega
  have hl3_w4 : w3.heap.size < w4.heap.size := by omega
  have a0_w4 : w4.cell? ⟨w.heap.size, 0, none⟩ = some (.int .i64 an) := below_cell_of hb_w4 (by first | (go_simp; done) | (refine below_cell_of (w := w3) ?_ (by first | assumption | (go_simp; done)); (repeat (first | assumption | exact Below.refl _ _ | refine below_set ?_ (by first | omega | (simp; done) | (simp; omega)) _ | refine below_drawn ?_ | refine below_drawnN ?_ _ | refine below_new ?_ _))))
  have a1_w4 : w4.cell? ⟨w.heap.size, 1, none⟩ = some (.int .i64 ad) := below_cell_of hb_w4 (by first | (go_simp; done) | (refine below_cell_of (w := w3) ?_ (by first | assumption | (go_simp; done)); (repeat (first | assumption | exact Below.refl _ _ | refine below_set ?_ (by first | omega | (simp; done) | (simp; omega)) _ | refine below_drawn ?_ | refine below_drawnN ?_ _ | refine below_new ?_ _))))
  have b0_w4 : w4.cell? ⟨w.heap.size + 1, 0, none⟩ = some (.int .i64 bn) := below_cell_of hb_w4 (by first | (go_simp; done) | (refine below_cell_of (w := w3) ?_ (by first | assumption | (go_simp; done)); (repeat (first | assumption | exact Below.refl _ _ | refine below_set ?_ (by first | omega | (simp; done) | (simp; omega)) _ | refine below_drawn ?_ | refine below_drawnN ?_ _ | refine below_new ?_ _))))
  have b1_w4 : w4.cell? ⟨w.heap.size + 1, 1, none⟩ = some (.int .i64 bd) := below_cell_of hb_w4 (by first | (go_simp; done) | (refine below_cell_of (w := w3) ?_ (by first | assumption | (go_simp; done)); (repeat (first | assumption | exact Below.refl _ _ | refine below_set ?_ (by first | omega | (simp; done) | (simp; omega)) _ | refine below_drawn ?_ | refine below_drawnN ?_ _ | refine below_new ?_ _))))
  have s0_w4 : w4.cell? ⟨w2.heap.size, 0, none⟩ = some (.int .i64 x0) := below_cell_of hb_w4 (by first | (go_simp; done) | (refine below_cell_of (w := w3) ?_ (by first | assumption | (go_simp; done)); (repeat (first | assumption | exact Below.refl _ _ | refine below_set ?_ (by first | omega | (simp; done) | (simp; omega)) _ | refine below_drawn ?_ | refine below_drawnN ?_ _ | refine below_new ?_ _))))
  have fzs0_w4 : w4.frozen? ⟨w2.heap.size, 0, none⟩ = false := below_frozen_of hb_w4 (by first | omega | (simp; done) | (simp; omega)) (by first | (go_simp; done) | (refine below_frozen_of (w := w3) ?_ (by omega) (by first | assumption | (go_simp; done)); (repeat (first | assumption | exact Below.refl _ _ | refine below_set ?_ (by first | omega | (simp; done) | (simp; omega)) _ | refine below_drawn ?_ | refine below_drawnN ?_ _ | refine below_new ?_ _))))
  have s1_w4 : w4.cell? ⟨w2.heap.size, 1, none⟩ = some (.int .i64 y0) := below_cell_of hb_w4 (by first | (go_simp; done) | (refine below_cell_of (w := w3) ?_ (by first | assumption | (go_simp; done)); (repeat (first | assumption | exact Below.refl _ _ | refine below_set ?_ (by first | omega | (simp; done) | (simp; omega)) _ | refine below_drawn ?_ | refine below_drawnN ?_ _ | refine below_new ?_ _))))
  have fzs1_w4 : w4.frozen? ⟨w2.heap.size, 1, none⟩ = false := below_frozen_of hb_w4 (by first | omega | (simp; done) | (simp; omega)) (by first | (go_simp; done) | (refine below_frozen_of (w := w3) ?_ (by omega) (by first | assumption | (go_simp; done)); (repeat (first | assumption | exact Below.refl _ _ | refine below_set ?_ (by first | omega | (simp; done) | (simp; omega)) _ | refine below_drawn ?_ | refine below_drawnN ?_ _ | refine below_new ?_ _))))
  have t0_w4 : w4.cell? ⟨w3.heap.size, 0, none⟩ = some (.int .i64 x0) := below_cell_of hb_w4 (by first | (go_simp; done) | (refine below_cell_of (w := w3) ?_ (by first | assumption | (go_simp; done)); (repeat (first | assumption | exact Below.refl _ _ | refine below_set ?_ (by first | omega | (simp; done) | (simp; omega)) _ | refine below_drawn ?_ | refine below_drawnN ?_ _ | refine below_new ?_ _))))
  have fzt0_w4 : w4.frozen? ⟨w3.heap.size, 0, none⟩ = false := below_frozen_of hb_w4 (by first | omega | (simp; done) | (simp; omega)) (by first | (go_simp; done) | (refine below_frozen_of (w := w3) ?_ (by omega) (by first | assumption | (go_simp; done)); (repeat (first | assumption | exact Below.refl _ _ | refine below_set ?_ (by first | omega | (simp; done) | (simp; omega)) _ | refine below_drawn ?_ | refine below_drawnN ?_ _ | refine below_new ?_ _))))
  have t1_w4 : w4.cell? ⟨w3.heap.size, 1, none⟩ = some (.int .i64 y0) := below_cell_of hb_w4 (by first | (go_simp; done) | (refine below_cell_of (w := w3) ?_ (by first | assumption | (go_simp; done)); (repeat (first | assumption | exact Below.refl _ _ | refine below_set ?_ (by first | omega | (simp; done) | (simp; omega)) _ | refine below_drawn ?_ | refine below_drawnN ?_ _ | refine below_new ?_ _))))
  have fzt1_w4 : w4.frozen? ⟨w3.heap.size, 1, none⟩ = false := below_frozen_of hb_w4 (by first | omega | (simp; done) | (simp; omega)) (by first | (go_simp; done) | (refine below_frozen_of (w := w3) ?_ (by omega) (by first | assumption | (go_simp; done)); (repeat (first | assumption | exact Below.refl _ _ | refine below_set ?_ (by first | omega | (simp; done) | (simp; omega)) _ | refine below_drawn ?_ | refine below_drawnN ?_ _ | refine below_new ?_ _))))
  go_wp2_with fail
  refine (radd_any an ad bn bd _).mono ?_
  rw [HADD.out]
  rintro e w5 ⟨rfl, hb_w5⟩
  have hB_w5 : Below w.heap.size w w5 := below_on (by first | ((repeat (first | assumption | exact Below.refl _ _ | refine below_set ?_ (by first | omega | (simp; done) | (simp; omega)) _ | refine below_drawn ?_ | refine below_drawnN ?_ _ | refine below_new ?_ _)); done) | (refine below_on hB_w4 ?_; (repeat (first | assumption | exact Below.refl _ _ | refine below_set ?_ (by first | omega | (simp; done) | (simp; omega)) _ | refine below_drawn ?_ | refine below_drawnN ?_ _ | refine below_new ?_ _)))) hb_w5
  have hz_w5 := hb_w5.size
  try simp only [World.size_setCell] at hz_w5
  try simp only [World.size_drew] at hz_w5
  try simp only [World.size_drewN] at hz_w5
  try simp only [World.size_alloc] at hz_w5
  try simp only [World.size_setCell] at hz_w5
  try simp only [World.size_drew] at hz_w5
  try simp only [World.size_drewN] at hz_w5
  try simp only [World.size_alloc] at hz_w5
  have hl0_w5 : w.heap.size < w5.heap.size := by omega
  have hl1_w5 : w.heap.size + 1 < w5.heap.size := by omega
  have hl2_w5 : w3.heap.size < w5.heap.size := by omega
  have hl3_w5 : w2.heap.size < w5.heap.size := by omega
  have a0_w5 : w5.cell? ⟨w.heap.size, 0, none⟩ = some (.int .i64 an) := below_cell_of hb_w5 (by first | (go_simp; done) | (refine below_cell_of (w := w4) ?_ (by first | assumption | (go_simp; done)); (repeat (first | assumption | exact Below.refl _ _ | refine below_set ?_ (by first | omega | (simp; done) | (simp; omega)) _ | refine below_drawn ?_ | refine below_drawnN ?_ _ | refine below_new ?_ _))))
  have a1_w5 : w5.cell? ⟨w.heap.size, 1, none⟩ = some (.int .i64 ad) := below_cell_of hb_w5 (by first | (go_simp; done) | (refine below_cell_of (w := w4) ?_ (by first | assumption | (go_simp; done)); (repeat (first | assumption | exact Below.refl _ _ | refine below_set ?_ (by first | omega | (simp; done) | (simp; omega)) _ | refine below_drawn ?_ | refine below_drawnN ?_ _ | refine below_new ?_ _))))
  have b0_w5 : w5.cell? ⟨w.heap.size + 1, 0, none⟩ = some (.int .i64 bn) := below_cell_of hb_w5 (by first | (go_simp; done) | (refine below_cell_of (w := w4) ?_ (by first | assumption | (go_simp; done)); (repeat (first | assumption | exact Below.refl _ _ | refine below_set ?_ (by first | omega | (simp; done) | (simp; omega)) _ | refine below_drawn ?_ | refine below_drawnN ?_ _ | refine below_new ?_ _))))
  have b1_w5 : w5.cell? ⟨w.heap.size + 1, 1, none⟩ = some (.int .i64 bd) := below_cell_of hb_w5 (by first | (go_simp; done) | (refine below_cell_of (w := w4) ?_ (by first | assumption | (go_simp; done)); (repeat (first | assumption | exact Below.refl _ _ | refine below_set ?_ (by first | omega | (simp; done) | (simp; omega)) _ | refine below_drawn ?_ | refine below_drawnN ?_ _ | refine below_new ?_ _))))
  have t0_w5 : w5.cell? ⟨w3.heap.size, 0, none⟩ = some (.int .i64 x0) := below_cell_of hb_w5 (by first | (go_simp; done) | (refine below_cell_of (w := w4) ?_ (by first | assumption | (go_simp; done)); (repeat (first | assumption | exact Below.refl _ _ | refine below_set ?_ (by first | omega | (simp; done) | (simp; omega)) _ | refine below_drawn ?_ | refine below_drawnN ?_ _ | refine below_new ?_ _))))
  have fzt0_w5 : w5.frozen? ⟨w3.heap.size, 0, none⟩ = false := below_frozen_of hb_w5 (by first | omega | (simp; done) | (simp; omega)) (by first | (go_simp; done) | (refine below_frozen_of (w := w4) ?_ (by omega) (by first | assumption | (go_simp; done)); (repeat (first | assumption | exact Below.refl _ _ | refine below_set ?_ (by first | omega | (simp; done) | (simp; omega)) _ | refine below_drawn ?_ | refine below_drawnN ?_ _ | refine below_new ?_ _))))
  have t1_w5 : w5.cell? ⟨w3.heap.size, 1, none⟩ = some (.int .i64 y0) := below_cell_of hb_w5 (by first | (go_simp; done) | (refine below_cell_of (w := w4) ?_ (by first | assumption | (go_simp; done)); (repeat (first | assumption | exact Below.refl _ _ | refine below_set ?_ (by first | omega | (simp; done) | (simp; omega)) _ | refine below_drawn ?_ | refine below_drawnN ?_ _ | refine below_new ?_ _))))
  have fzt1_w5 : w5.frozen? ⟨w3.heap.size, 1, none⟩ = false := below_frozen_of hb_w5 (by first | omega | (simp; done) | (simp; omega)) (by first | (go_simp; done) | (refine below_frozen_of (w := w4) ?_ (by omega) (by first | assumption | (go_simp; done)); (repeat (first | assumption | exact Below.refl _ _ | refine below_set ?_ (by first | omega | (simp; done) | (simp; omega)) _ | refine below_drawn ?_ | refine below_drawnN ?_ _ | refine below_new ?_ _))))
  have s0_w5 : w5.cell? ⟨w2.heap.size, 0, none⟩ = some (.int .i64 x1) := below_cell_of hb_w5 (by first | (go_simp; done) | (refine below_cell_of (w := w4) ?_ (by first | assumption | (go_simp; done)); (repeat (first | assumption | exact Below.refl _ _ | refine below_set ?_ (by first | omega | (simp; done) | (simp; omega)) _ | refine below_drawn ?_ | refine below_drawnN ?_ _ | refine below_new ?_ _))))
  have fzs0_w5 : w5.frozen? ⟨w2.heap.size, 0, none⟩ = false := below_frozen_of hb_w5 (by first | omega | (simp; done) | (simp; omega)) (by first | (go_simp; done) | (refine below_frozen_of (w := w4) ?_ (by omega) (by first | assumption | (go_simp; done)); (repeat (first | assumption | exact Below.refl _ _ | refine below_set ?_ (by first | omega | (simp; done) | (simp; omega)) _ | refine below_drawn ?_ | refine below_drawnN ?_ _ | refine below_new ?_ _))))
  have s1_w5 : w5.cell? ⟨w2.heap.size, 1, none⟩ = some (.int .i64 y1) := below_cell_of hb_w5 (by first | (go_simp; done) | (refine below_cell_of (w := w4) ?_ (by first | assumption | (go_simp; done)); (repeat (first | assumption | exact Below.refl _ _ | refine below_set ?_ (by first | omega | (simp; done) | (simp; omega)) _ | refine below_drawn ?_ | refine below_drawnN ?_ _ | refine below_new ?_ _))))
  have fzs1_w5 : w5.frozen? ⟨w2.heap.size, 1, none⟩ = false := below_frozen_of hb_w5 (by first | omega | (simp; done) | (simp; omega)) (by first | (go_simp; done) | (refine below_frozen_of (w := w4) ?_ (by omega) (by first | assumption | (go_simp; done)); (repeat (first | assumption | exact Below.refl _ _ | refine below_set ?_ (by first | omega | (simp; done) | (simp; omega)) _ | refine below_drawn ?_ | refine below_drawnN ?_ _ | refine below_new ?_ _))))
  go_wp2_with fail
  refine (sub_any an ad bn bd _ ka kb).mono ?_
  rw [HSUB.out]
  rintro e w6 ⟨rfl, hb_w6⟩
  have hB_w6 : Below w.heap.size w w6 := below_on (by first | ((repeat (first | assumption | exact Below.refl _ _ | refine below_set ?_ (by first | omega | (simp; done) | (simp; omega)) _ | refine below_drawn ?_ | refine below_drawnN ?_ _ | refine below_new ?_ _)); done) | (refine below_on hB_w5 ?_; (repeat (first | assumption | exact Below.refl _ _ | refine below_set ?_ (by first | omega | (simp; done) | (simp; omega)) _ | refine below_drawn ?_ | refine below_drawnN ?_ _ | refine below_new ?_ _)))) hb_w6
  have hz_w6 := hb_w6.size
  try simp only [World.size_setCell] at hz_w6
  try simp only [World.size_drew] at hz_w6
  try simp only [World.size_drewN] at hz_w6
  try simp only [World.size_alloc] at hz_w6
  try simp only [World.size_setCell] at hz_w6
  try simp only [World.size_drew] at hz_w6
  try simp only [World.size_drewN] at hz_w6
  try simp only [World.size_alloc] at hz_w6
  have hl0_w6 : w.heap.size < w6.heap.size := by omega
  have hl1_w6 : w.heap.size + 1 < w6.heap.size := by omega
  have hl2_w6 : w2.heap.size < w6.heap.size := by omega
  have hl3_w6 : w3.heap.size < w6.heap.size := by omega
  have a0_w6 : w6.cell? ⟨w.heap.size, 0, none⟩ = some (.int .i64 an) := below_cell_of hb_w6 (by first | (go_simp; done) | (refine below_cell_of (w := w5) ?_ (by first | assumption | (go_simp; done)); (repeat (first | assumption | exact Below.refl _ _ | refine below_set ?_ (by first | omega | (simp; done) | (simp; omega)) _ | refine below_drawn ?_ | refine below_drawnN ?_ _ | refine below_new ?_ _))))
  have a1_w6 : w6.cell? ⟨w.heap.size, 1, none⟩ = some (.int .i64 ad) := below_cell_of hb_w6 (by first | (go_simp; done) | (refine below_cell_of (w := w5) ?_ (by first | assumption | (go_simp; done)); (repeat (first | assumption | exact Below.refl _ _ | refine below_set ?_ (by first | omega | (simp; done) | (simp; omega)) _ | refine below_drawn ?_ | refine below_drawnN ?_ _ | refine below_new ?_ _))))
  have b0_w6 : w6.cell? ⟨w.heap.size + 1, 0, none⟩ = some (.int .i64 bn) := below_cell_of hb_w6 (by first | (go_simp; done) | (refine below_cell_of (w := w5) ?_ (by first | assumption | (go_simp; done)); (repeat (first | assumption | exact Below.refl _ _ | refine below_set ?_ (by first | omega | (simp; done) | (simp; omega)) _ | refine below_drawn ?_ | refine below_drawnN ?_ _ | refine below_new ?_ _))))
  have b1_w6 : w6.cell? ⟨w.heap.size + 1, 1, none⟩ = some (.int .i64 bd) := below_cell_of hb_w6 (by first | (go_simp; done) | (refine below_cell_of (w := w5) ?_ (by first | assumption | (go_simp; done)); (repeat (first | assumption | exact Below.refl _ _ | refine below_set ?_ (by first | omega | (simp; done) | (simp; omega)) _ | refine below_drawn ?_ | refine below_drawnN ?_ _ | refine below_new ?_ _))))
  have s0_w6 : w6.cell? ⟨w2.heap.size, 0, none⟩ = some (.int .i64 x1) := below_cell_of hb_w6 (by first | (go_simp; done) | (refine below_cell_of (w := w5) ?_ (by first | assumption | (go_simp; done)); (repeat (first | assumption | exact Below.refl _ _ | refine below_set ?_ (by first | omega | (simp; done) | (simp; omega)) _ | refine below_drawn ?_ | refine below_drawnN ?_ _ | refine below_new ?_ _))))
  have fzs0_w6 : w6.frozen? ⟨w2.heap.size, 0, none⟩ = false := below_frozen_of hb_w6 (by first | omega | (simp; done) | (simp; omega)) (by first | (go_simp; done) | (refine below_frozen_of (w := w5) ?_ (by omega) (by first | assumption | (go_simp; done)); (repeat (first | assumption | exact Below.refl _ _ | refine below_set ?_ (by first | omega | (simp; done) | (simp; omega)) _ | refine below_drawn ?_ | refine below_drawnN ?_ _ | refine below_new ?_ _))))
  have s1_w6 : w6.cell? ⟨w2.heap.size, 1, none⟩ = some (.int .i64 y1) := below_cell_of hb_w6 (by first | (go_simp; done) | (refine below_cell_of (w := w5) ?_ (by first | assumption | (go_simp; done)); (repeat (first | assumption | exact Below.refl _ _ | refine below_set ?_ (by first | omega | (simp; done) | (simp; omega)) _ | refine below_drawn ?_ | refine below_drawnN ?_ _ | refine below_new ?_ _))))
  have fzs1_w6 : w6.frozen? ⟨w2.heap.size, 1, none⟩ = false := below_frozen_of hb_w6 (by first | omega | (simp; done) | (simp; omega)) (by first | (go_simp; done) | (refine below_frozen_of (w := w5) ?_ (by omega) (by first | assumption | (go_simp; done)); (repeat (first | assumption | exact Below.refl _ _ | refine below_set ?_ (by first | omega | (simp; done) | (simp; omega)) _ | refine below_drawn ?_ | refine below_drawnN ?_ _ | refine below_new ?_ _))))
  have t0_w6 : w6.cell? ⟨w3.heap.size, 0, none⟩ = some (.int .i64 x1) := below_cell_of hb_w6 (by first | (go_simp; done) | (refine below_cell_of (w := w5) ?_ (by first | assumption | (go_simp; done)); (repeat (first | assumption | exact Below.refl _ _ | refine below_set ?_ (by first | omega | (simp; done) | (simp; omega)) _ | refine below_drawn ?_ | refine below_drawnN ?_ _ | refine below_new ?_ _))))
  have fzt0_w6 : w6.frozen? ⟨w3.heap.size, 0, none⟩ = false := below_frozen_of hb_w6 (by first | omega | (simp; done) | (simp; omega)) (by first | (go_simp; done) | (refine below_frozen_of (w := w5) ?_ (by omega) (by first | assumption | (go_simp; done)); (repeat (first | assumption | exact Below.refl _ _ | refine below_set ?_ (by first | omega | (simp; done) | (simp; omega)) _ | refine below_drawn ?_ | refine below_drawnN ?_ _ | refine below_new ?_ _))))
  have t1_w6 : w6.cell? ⟨w3.heap.size, 1, none⟩ = some (.int .i64 y1) := below_cell_of hb_w6 (by first | (go_simp; done) | (refine below_cell_of (w := w5) ?_ (by first | assumption | (go_simp; done)); (repeat (first | assumption | exact Below.refl _ _ | refine below_set ?_ (by first | omega | (simp; done) | (simp; omega)) _ | refine below_drawn ?_ | refine below_drawnN ?_ _ | refine below_new ?_ _))))
  have fzt1_w6 : w6.frozen? ⟨w3.heap.size, 1, none⟩ = false := below_frozen_of hb_w6 (by first | omega | (simp; done) | (simp; omega)) (by first | (go_simp; done) | (refine below_frozen_of (w := w5) ?_ (by omega) (by first | assumption | (go_simp; done)); (repeat (first | assumption | exact Below.refl _ _ | refine below_set ?_ (by first | omega | (simp; done) | (simp; omega)) _ | refine below_drawn ?_ | refine below_drawnN ?_ _ | refine below_new ?_ _))))
  go_wp2_with fail
  refine (rsub_any an ad bn bd _).mono ?_
  rw [HSUB.out]
  rintro e w7 ⟨rfl, hb_w7⟩
  have hB_w7 : Below w.heap.size w w7 := below_on (by first | ((repeat (first | assumption | exact Below.refl _ _ | refine below_set ?_ (by first | omega | (simp; done) | (simp; omega)) _ | refine below_drawn ?_ | refine below_drawnN ?_ _ | refine below_new ?_ _)); done) | (refine below_on hB_w6 ?_; (repeat (first | assumption | exact Below.refl _ _ | refine below_set ?_ (by first | omega | (simp; done) | (simp; omega)) _ | refine below_drawn ?_ | refine below_drawnN ?_ _ | refine below_new ?_ _)))) hb_w7
  have hz_w7 := hb_w7.size
  try simp only [World.size_setCell] at hz_w7
  try simp only [World.size_drew] at hz_w7
  try simp only [World.size_drewN] at hz_w7
  try simp only [World.size_alloc] at hz_w7
  try simp only [World.size_setCell] at hz_w7
  try simp only [World.size_drew] at hz_w7
  try simp only [World.size_drewN] at hz_w7
  try simp only [World.size_alloc] at hz_w7
  have hl0_w7 : w.heap.size < w7.heap.size := by omega
  have hl1_w7 : w.heap.size + 1 < w7.heap.size := by omega
  have hl2_w7 : w3.heap.size < w7.heap.size := by omega
  have hl3_w7 : w2.heap.size < w7.heap.size := by omega
  have a0_w7 : w7.cell? ⟨w.heap.size, 0, none⟩ = some (.int .i64 an) := below_cell_of hb_w7 (by first | (go_simp; done) | (refine below_cell_of (w := w6) ?_ (by first | assumption | (go_simp; done)); (repeat (first | assumption | exact Below.refl _ _ | refine below_set ?_ (by first | omega | (simp; done) | (simp; omega)) _ | refine below_drawn ?_ | refine below_drawnN ?_ _ | refine below_new ?_ _))))
  have a1_w7 : w7.cell? ⟨w.heap.size, 1, none⟩ = some (.int .i64 ad) := below_cell_of hb_w7 (by first | (go_simp; done) | (refine below_cell_of (w := w6) ?_ (by first | assumption | (go_simp; done)); (repeat (first | assumption | exact Below.refl _ _ | refine below_set ?_ (by first | omega | (simp; done) | (simp; omega)) _ | refine below_drawn ?_ | refine below_drawnN ?_ _ | refine below_new ?_ _))))
  have b0_w7 : w7.cell? ⟨w.heap.size + 1, 0, none⟩ = some (.int .i64 bn) := below_cell_of hb_w7 (by first | (go_simp; done) | (refine below_cell_of (w := w6) ?_ (by first | assumption | (go_simp; done)); (repeat (first | assumption | exact Below.refl _ _ | refine below_set ?_ (by first | omega | (simp; done) | (simp; omega)) _ | refine below_drawn ?_ | refine below_drawnN ?_ _ | refine below_new ?_ _))))
  have b1_w7 : w7.cell? ⟨w.heap.size + 1, 1, none⟩ = some (.int .i64 bd) := below_cell_of hb_w7 (by first | (go_simp; done) | (refine below_cell_of (w := w6) ?_ (by first | assumption | (go_simp; done)); (repeat (first | assumption | exact Below.refl _ _ | refine below_set ?_ (by first | omega | (simp; done) | (simp; omega)) _ | refine below_drawn ?_ | refine below_drawnN ?_ _ | refine below_new ?_ _))))
  have t0_w7 : w7.cell? ⟨w3.heap.size, 0, none⟩ = some (.int .i64 x1) := below_cell_of hb_w7 (by first | (go_simp; done) | (refine below_cell_of (w := w6) ?_ (by first | assumption | (go_simp; done)); (repeat (first | assumption | exact Below.refl _ _ | refine below_set ?_ (by first | omega | (simp; done) | (simp; omega)) _ | refine below_drawn ?_ | refine below_drawnN ?_ _ | refine below_new ?_ _))))
  have fzt0_w7 : w7.frozen? ⟨w3.heap.size, 0, none⟩ = false := below_frozen_of hb_w7 (by first | omega | (simp; done) | (simp; omega)) (by first | (go_simp; done) | (refine below_frozen_of (w := w6) ?_ (by omega) (by first | assumption | (go_simp; done)); (repeat (first | assumption | exact Below.refl _ _ | refine below_set ?_ (by first | omega | (simp; done) | (simp; omega)) _ | refine below_drawn ?_ | refine below_drawnN ?_ _ | refine below_new ?_ _))))
  have t1_w7 : w7.cell? ⟨w3.heap.size, 1, none⟩ = some (.int .i64 y1) := below_cell_of hb_w7 (by first | (go_simp; done) | (refine below_cell_of (w := w6) ?_ (by first | assumption | (go_simp; done)); (repeat (first | assumption | exact Below.refl _ _ | refine below_set ?_ (by first | omega | (simp; done) | (simp; omega)) _ | refine below_drawn ?_ | refine below_drawnN ?_ _ | refine below_new ?_ _))))
  have fzt1_w7 : w7.frozen? ⟨w3.heap.size, 1, none⟩ = false := below_frozen_of hb_w7 (by first | omega | (simp; done) | (simp; omega)) (by first | (go_simp; done) | (refine below_frozen_of (w := w6) ?_ (by omega) (by first | assumption | (go_simp; done)); (repeat (first | assumption | exact Below.refl _ _ | refine below_set ?_ (by first | omega | (simp; done) | (simp; omega)) _ | refine below_drawn ?_ | refine below_drawnN ?_ _ | refine below_new ?_ _))))
  have s0_w7 : w7.cell? ⟨w2.heap.size, 0, none⟩ = some (.int .i64 x2) := below_cell_of hb_w7 (by first | (go_simp; done) | (refine below_cell_of (w := w6) ?_ (by first | assumption | (go_simp; done)); (repeat (first | assumption | exact Below.refl _ _ | refine below_set ?_ (by first | omega | (simp; done) | (simp; omega)) _ | refine below_drawn ?_ | refine below_drawnN ?_ _ | refine below_new ?_ _))))
  have fzs0_w7 : w7.frozen? ⟨w2.heap.size, 0, none⟩ = false := below_frozen_of hb_w7 (by first | omega | (simp; done) | (simp; omega)) (by first | (go_simp; done) | (refine below_frozen_of (w := w6) ?_ (by omega) (by first | assumption | (go_simp; done)); (repeat (first | assumption | exact Below.refl _ _ | refine below_set ?_ (by first | omega | (simp; done) | (simp; omega)) _ | refine below_drawn ?_ | refine below_drawnN ?_ _ | refine below_new ?_ _))))
  have s1_w7 : w7.cell? ⟨w2.heap.size, 1, none⟩ = some (.int .i64 y2) := below_cell_of hb_w7 (by first | (go_simp; done) | (refine below_cell_of (w := w6) ?_ (by first | assumption | (go_simp; done)); (repeat (first | assumption | exact Below.refl _ _ | refine below_set ?_ (by first | omega | (simp; done) | (simp; omega)) _ | refine below_drawn ?_ | refine below_drawnN ?_ _ | refine below_new ?_ _))))
  have fzs1_w7 : w7.frozen? ⟨w2.heap.size, 1, none⟩ = false := below_frozen_of hb_w7 (by first | omega | (simp; done) | (simp; omega)) (by first | (go_simp; done) | (refine below_frozen_of (w := w6) ?_ (by omega) (by first | assumption | (go_simp; done)); (repeat (first | assumption | exact Below.refl _ _ | refine below_set ?_ (by first | omega | (simp; done) | (simp; omega)) _ | refine below_drawn ?_ | refine below_drawnN ?_ _ | refine below_new ?_ _))))
  go_wp2_with fail
  refine (mul_any an ad bn bd _ ka kb).mono ?_
  rw [HMUL.out]
  rintro e w8 ⟨rfl, hb_w8⟩
  have hB_w8 : Below w.heap.size w w8 := below_on (by first | ((repeat (first | assumption | exact Below.refl _ _ | refine below_set ?_ (by first | omega | (simp; done) | (simp; omega)) _ | refine below_drawn ?_ | refine below_drawnN ?_ _ | refine below_new ?_ _)); done) | (refine below_on hB_w7 ?_; (repeat (first | assumption | exact Below.refl _ _ | refine below_set ?_ (by first | omega | (simp; done) | (simp; omega)) _ | refine below_drawn ?_ | refine below_drawnN ?_ _ | refine below_new ?_ _)))) hb_w8
  have hz_w8 := hb_w8.size
  try simp only [World.size_setCell] at hz_w8
  try simp only [World.size_drew] at hz_w8
  try simp only [World.size_drewN] at hz_w8
  try simp only [World.size_alloc] at hz_w8
  try simp only [World.size_setCell] at hz_w8
  try simp only [World.size_drew] at hz_w8
  try simp only [World.size_drewN] at hz_w8
  try simp only [World.size_alloc] at hz_w8
  have hl0_w8 : w.heap.size < w8.heap.size := by omega
  have hl1_w8 : w.heap.size + 1 < w8.heap.size := by omega
  have hl2_w8 : w2.heap.size < w8.heap.size := by omega
  have hl3_w8 : w3.heap.size < w8.heap.size := by omega
  have a0_w8 : w8.cell? ⟨w.heap.size, 0, none⟩ = some (.int .i64 an) := below_cell_of hb_w8 (by first | (go_simp; done) | (refine below_cell_of (w := w7) ?_ (by first | assumption | (go_simp; done)); (repeat (first | assumption | exact Below.refl _ _ | refine below_set ?_ (by first | omega | (simp; done) | (simp; omega)) _ | refine below_drawn ?_ | refine below_drawnN ?_ _ | refine below_new ?_ _))))
  have a1_w8 : w8.cell? ⟨w.heap.size, 1, none⟩ = some (.int .i64 ad) := below_cell_of hb_w8 (by first | (go_simp; done) | (refine below_cell_of (w := w7) ?_ (by first | assumption | (go_simp; done)); (repeat (first | assumption | exact Below.refl _ _ | refine below_set ?_ (by first | omega | (simp; done) | (simp; omega)) _ | refine below_drawn ?_ | refine below_drawnN ?_ _ | refine below_new ?_ _))))
  have b0_w8 : w8.cell? ⟨w.heap.size + 1, 0, none⟩ = some (.int .i64 bn) := below_cell_of hb_w8 (by first | (go_simp; done) | (refine below_cell_of (w := w7) ?_ (by first | assumption | (go_simp; done)); (repeat (first | assumption | exact Below.refl _ _ | refine below_set ?_ (by first | omega | (simp; done) | (simp; omega)) _ | refine below_drawn ?_ | refine below_drawnN ?_ _ | refine below_new ?_ _))))
  have b1_w8 : w8.cell? ⟨w.heap.size + 1, 1, none⟩ = some (.int .i64 bd) := below_cell_of hb_w8 (by first | (go_simp; done) | (refine below_cell_of (w := w7) ?_ (by first | assumption | (go_simp; done)); (repeat (first | assumption | exact Below.refl _ _ | refine below_set ?_ (by first | omega | (simp; done) | (simp; omega)) _ | refine below_drawn ?_ | refine below_drawnN ?_ _ | refine below_new ?_ _))))
  have s0_w8 : w8.cell? ⟨w2.heap.size, 0, none⟩ = some (.int .i64 x2) := below_cell_of hb_w8 (by first | (go_simp; done) | (refine below_cell_of (w := w7) ?_ (by first | assumption | (go_simp; done)); (repeat (first | assumption | exact Below.refl _ _ | refine below_set ?_ (by first | omega | (simp; done) | (simp; omega)) _ | refine below_drawn ?_ | refine below_drawnN ?_ _ | refine below_new ?_ _))))
  have fzs0_w8 : w8.frozen? ⟨w2.heap.size, 0, none⟩ = false := below_frozen_of hb_w8 (by first | omega | (simp; done) | (simp; omega)) (by first | (go_simp; done) | (refine below_frozen_of (w := w7) ?_ (by omega) (by first | assumption | (go_simp; done)); (repeat (first | assumption | exact Below.refl _ _ | refine below_set ?_ (by first | omega | (simp; done) | (simp; omega)) _ | refine below_drawn ?_ | refine below_drawnN ?_ _ | refine below_new ?_ _))))
  have s1_w8 : w8.cell? ⟨w2.heap.size, 1, none⟩ = some (.int .i64 y2) := below_cell_of hb_w8 (by first | (go_simp; done) | (refine below_cell_of (w := w7) ?_ (by first | assumption | (go_simp; done)); (repeat (first | assumption | exact Below.refl _ _ | refine below_set ?_ (by first | omega | (simp; done) | (simp; omega)) _ | refine below_drawn ?_ | refine below_drawnN ?_ _ | refine below_new ?_ _))))
  have fzs1_w8 : w8.frozen? ⟨w2.heap.size, 1, none⟩ = false := below_frozen_of hb_w8 (by first | omega | (simp; done) | (simp; omega)) (by first | (go_simp; done) | (refine below_frozen_of (w := w7) ?_ (by omega) (by first | assumption | (go_simp; done)); (repeat (first | assumption | exact Below.refl _ _ | refine below_set ?_ (by first | omega | (simp; done) | (simp; omega)) _ | refine below_drawn ?_ | refine below_drawnN ?_ _ | refine below_new ?_ _))))
  have t0_w8 : w8.cell? ⟨w3.heap.size, 0, none⟩ = some (.int .i64 x2) := below_cell_of hb_w8 (by first | (go_simp; done) | (refine below_cell_of (w := w7) ?_ (by first | assumption | (go_simp; done)); (repeat (first | assumption | exact Below.refl _ _ | refine below_set ?_ (by first | omega | (simp; done) | (simp; omega)) _ | refine below_drawn ?_ | refine below_drawnN ?_ _ | refine below_new ?_ _))))
  have fzt0_w8 : w8.frozen? ⟨w3.heap.size, 0, none⟩ = false := below_frozen_of hb_w8 (by first | omega | (simp; done) | (simp; omega)) (by first | (go_simp; done) | (refine below_frozen_of (w := w7) ?_ (by omega) (by first | assumption | (go_simp; done)); (repeat (first | assumption | exact Below.refl _ _ | refine below_set ?_ (by first | omega | (simp; done) | (simp; omega)) _ | refine below_drawn ?_ | refine below_drawnN ?_ _ | refine below_new ?_ _))))
  have t1_w8 : w8.cell? ⟨w3.heap.size, 1, none⟩ = some (.int .i64 y2) := below_cell_of hb_w8 (by first | (go_simp; done) | (refine below_cell_of (w := w7) ?_ (by first | assumption | (go_simp; done)); (repeat (first | assumption | exact Below.refl _ _ | refine below_set ?_ (by first | omega | (simp; done) | (simp; omega)) _ | refine below_drawn ?_ | refine below_drawnN ?_ _ | refine below_new ?_ _))))
  have fzt1_w8 : w8.frozen? ⟨w3.heap.size, 1, none⟩ = false := below_frozen_of hb_w8 (by first | omega | (simp; done) | (simp; omega)) (by first | (go_simp; done) | (refine below_frozen_of (w := w7) ?_ (by omega) (by first | assumption | (go_simp; done)); (repeat (first | assumption | exact Below.refl _ _ | refine below_set ?_ (by first | omega | (simp; done) | (simp; omega)) _ | refine below_drawn ?_ | refine below_drawnN ?_ _ | refine below_new ?_ _))))
  go_wp2_with fail
  refine (rmul_any an ad bn bd _).mono ?_
  rw [HMUL.out]
  rintro e w9 ⟨rfl, hb_w9⟩
  have hB_w9 : Below w.heap.size w w9 := below_on (by first | ((repeat (first | assumption | exact Below.refl _ _ | refine below_set ?_ (by first | omega | (simp; done) | (simp; omega)) _ | refine below_drawn ?_ | refine below_drawnN ?_ _ | refine below_new ?_ _)); done) | (refine below_on hB_w8 ?_; (repeat (first | assumption | exact Below.refl _ _ | refine below_set ?_ (by first | omega | (simp; done) | (simp; omega)) _ | refine below_drawn ?_ | refine below_drawnN ?_ _ | refine below_new ?_ _)))) hb_w9
  have hz_w9 := hb_w9.size
  try simp only [World.size_setCell] at hz_w9
  try simp only [World.size_drew] at hz_w9
  try simp only [World.size_drewN] at hz_w9
  try simp only [World.size_alloc] at hz_w9
  try simp only [World.size_setCell] at hz_w9
  try simp only [World.size_drew] at hz_w9
  try simp only [World.size_drewN] at hz_w9
  try simp only [World.size_alloc] at hz_w9
  have hl0_w9 : w.heap.size < w9.heap.size := by omega
  have hl1_w9 : w.heap.size + 1 < w9.heap.size := by omega
  have hl2_w9 : w3.heap.size < w9.heap.size := by omega
  have hl3_w9 : w2.heap.size < w9.heap.size := by omega
  have a0_w9 : w9.cell? ⟨w.heap.size, 0, none⟩ = some (.int .i64 an) := below_cell_of hb_w9 (by first | (go_simp; done) | (refine below_cell_of (w := w8) ?_ (by first | assumption | (go_simp; done)); (repeat (first | assumption | exact Below.refl _ _ | refine below_set ?_ (by first | omega | (simp; done) | (simp; omega)) _ | refine below_drawn ?_ | refine below_drawnN ?_ _ | refine below_new ?_ _))))
  have a1_w9 : w9.cell? ⟨w.heap.size, 1, none⟩ = some (.int .i64 ad) := below_cell_of hb_w9 (by first | (go_simp; done) | (refine below_cell_of (w := w8) ?_ (by first | assumption | (go_simp; done)); (repeat (first | assumption | exact Below.refl _ _ | refine below_set ?_ (by first | omega | (simp; done) | (simp; omega)) _ | refine below_drawn ?_ | refine below_drawnN ?_ _ | refine below_new ?_ _))))
  have b0_w9 : w9.cell? ⟨w.heap.size + 1, 0, none⟩ = some (.int .i64 bn) := below_cell_of hb_w9 (by first | (go_simp; done) | (refine below_cell_of (w := w8) ?_ (by first | assumption | (go_simp; done)); (repeat (first | assumption | exact Below.refl _ _ | refine below_set ?_ (by first | omega | (simp; done) | (simp; omega)) _ | refine below_drawn ?_ | refine below_drawnN ?_ _ | refine below_new ?_ _))))
  have b1_w9 : w9.cell? ⟨w.heap.size + 1, 1, none⟩ = some (.int .i64 bd) := below_cell_of hb_w9 (by first | (go_simp; done) | (refine below_cell_of (w := w8) ?_ (by first | assumption | (go_simp; done)); (repeat (first | assumption | exact Below.refl _ _ | refine below_set ?_ (by first | omega | (simp; done) | (simp; omega)) _ | refine below_drawn ?_ | refine below_drawnN ?_ _ | refine below_new ?_ _))))
  have t0_w9 : w9.cell? ⟨w3.heap.size, 0, none⟩ = some (.int .i64 x2) := below_cell_of hb_w9 (by first | (go_simp; done) | (refine below_cell_of (w := w8) ?_ (by first | assumption | (go_simp; done)); (repeat (first | assumption | exact Below.refl _ _ | refine below_set ?_ (by first | omega | (simp; done) | (simp; omega)) _ | refine below_drawn ?_ | refine below_drawnN ?_ _ | refine below_new ?_ _))))
  have fzt0_w9 : w9.frozen? ⟨w3.heap.size, 0, none⟩ = false := below_frozen_of hb_w9 (by first | omega | (simp; done) | (simp; omega)) (by first | (go_simp; done) | (refine below_frozen_of (w := w8) ?_ (by omega) (by first | assumption | (go_simp; done)); (repeat (first | assumption | exact Below.refl _ _ | refine below_set ?_ (by first | omega | (simp; done) | (simp; omega)) _ | refine below_drawn ?_ | refine below_drawnN ?_ _ | refine below_new ?_ _))))
  have t1_w9 : w9.cell? ⟨w3.heap.size, 1, none⟩ = some (.int .i64 y2) := below_cell_of hb_w9 (by first | (go_simp; done) | (refine below_cell_of (w := w8) ?_ (by first | assumption | (go_simp; done)); (repeat (first | assumption | exact Below.refl _ _ | refine below_set ?_ (by first | omega | (simp; done) | (simp; omega)) _ | refine below_drawn ?_ | refine below_drawnN ?_ _ | refine below_new ?_ _))))
  have fzt1_w9 : w9.frozen? ⟨w3.heap.size, 1, none⟩ = false := below_frozen_of hb_w9 (by first | omega | (simp; done) | (simp; omega)) (by first | (go_simp; done) | (refine below_frozen_of (w := w8) ?_ (by omega) (by first | assumption | (go_simp; done)); (repeat (first | assumption | exact Below.refl _ _ | refine below_set ?_ (by first | omega | (simp; done) | (simp; omega)) _ | refine below_drawn ?_ | refine below_drawnN ?_ _ | refine below_new ?_ _))))
  have s0_w9 : w9.cell? ⟨w2.heap.size, 0, none⟩ = some (.int .i64 x3) := below_cell_of hb_w9 (by first | (go_simp; done) | (refine below_cell_of (w := w8) ?_ (by first | assumption | (go_simp; done)); (repeat (first | assumption | exact Below.refl _ _ | refine below_set ?_ (by first | omega | (simp; done) | (simp; omega)) _ | refine below_drawn ?_ | refine below_drawnN ?_ _ | refine below_new ?_ _))))
  have fzs0_w9 : w9.frozen? ⟨w2.heap.size, 0, none⟩ = false := below_frozen_of hb_w9 (by first | omega | (simp; done) | (simp; omega)) (by first | (go_simp; done) | (refine below_frozen_of (w := w8) ?_ (by omega) (by first | assumption | (go_simp; done)); (repeat (first | assumption | exact Below.refl _ _ | refine below_set ?_ (by first | omega | (simp; done) | (simp; omega)) _ | refine below_drawn ?_ | refine below_drawnN ?_ _ | refine below_new ?_ _))))
  have s1_w9 : w9.cell? ⟨w2.heap.size, 1, none⟩ = some (.int .i64 y3) := below_cell_of hb_w9 (by first | (go_simp; done) | (refine below_cell_of (w := w8) ?_ (by first | assumption | (go_simp; done)); (repeat (first | assumption | exact Below.refl _ _ | refine below_set ?_ (by first | omega | (simp; done) | (simp; omega)) _ | refine below_drawn ?_ | refine below_drawnN ?_ _ | refine below_new ?_ _))))
  have fzs1_w9 : w9.frozen? ⟨w2.heap.size, 1, none⟩ = false := below_frozen_of hb_w9 (by first | omega | (simp; done) | (simp; omega)) (by first | (go_simp; done) | (refine below_frozen_of (w := w8) ?_ (by omega) (by first | assumption | (go_simp; done)); (repeat (first | assumption | exact Below.refl _ _ | refine below_set ?_ (by first | omega | (simp; done) | (simp; omega)) _ | refine below_drawn ?_ | refine below_drawnN ?_ _ | refine below_new ?_ _))))
  go_wp2_with fail
  refine (div_any an ad bn bd _ ka kb).mono ?_
  rw [HDIV.out]
  rintro e w10 ⟨rfl, hb_w10⟩
  have hB_w10 : Below w.heap.size w w10 := below_on (by first | ((repeat (first | assumption | exact Below.refl _ _ | refine below_set ?_ (by first | omega | (simp; done) | (simp; omega)) _ | refine below_drawn ?_ | refine below_drawnN ?_ _ | refine below_new ?_ _)); done) | (refine below_on hB_w9 ?_; (repeat (first | assumption | exact Below.refl _ _ | refine below_set ?_ (by first | omega | (simp; done) | (simp; omega)) _ | refine below_drawn ?_ | refine below_drawnN ?_ _ | refine below_new ?_ _)))) hb_w10
  have hz_w10 := hb_w10.size
  try simp only [World.size_setCell] at hz_w10
  try simp only [World.size_drew] at hz_w10
  try simp only [World.size_drewN] at hz_w10
  try simp only [World.size_alloc] at hz_w10
  try simp only [World.size_setCell] at hz_w10
  try simp only [World.size_drew] at hz_w10
  try simp only [World.size_drewN] at hz_w10
  try simp only [World.size_alloc] at hz_w10
  have hl0_w10 : w.heap.size < w10.heap.size := by omega
  have hl1_w10 : w.heap.size + 1 < w10.heap.size := by omega
  have hl2_w10 : w2.heap.size < w10.heap.size := by omega
  have hl3_w10 : w3.heap.size < w10.heap.size := by omega
  have a0_w10 : w10.cell? ⟨w.heap.size, 0, none⟩ = some (.int .i64 an) := below_cell_of hb_w10 (by first | (go_simp; done) | (refine below_cell_of (w := w9) ?_ (by first | assumption | (go_simp; done)); (repeat (first | assumption | exact Below.refl _ _ | refine below_set ?_ (by first | omega | (simp; done) | (simp; omega)) _ | refine below_drawn ?_ | refine below_drawnN ?_ _ | refine below_new ?_ _))))
  have a1_w10 : w10.cell? ⟨w.heap.size, 1, none⟩ = some (.int .i64 ad) := below_cell_of hb_w10 (by first | (go_simp; done) | (refine below_cell_of (w := w9) ?_ (by first | assumption | (go_simp; done)); (repeat (first | assumption | exact Below.refl _ _ | refine below_set ?_ (by first | omega | (simp; done) | (simp; omega)) _ | refine below_drawn ?_ | refine below_drawnN ?_ _ | refine below_new ?_ _))))
  have b0_w10 : w10.cell? ⟨w.heap.size + 1, 0, none⟩ = some (.int .i64 bn) := below_cell_of hb_w10 (by first | (go_simp; done) | (refine below_cell_of (w := w9) ?_ (by first | assumption | (go_simp; done)); (repeat (first | assumption | exact Below.refl _ _ | refine below_set ?_ (by first | omega | (simp; done) | (simp; omega)) _ | refine below_drawn ?_ | refine below_drawnN ?_ _ | refine below_new ?_ _))))
  have b1_w10 : w10.cell? ⟨w.heap.size + 1, 1, none⟩ = some (.int .i64 bd) := below_cell_of hb_w10 (by first | (go_simp; done) | (refine below_cell_of (w := w9) ?_ (by first | assumption | (go_simp; done)); (repeat (first | assumption | exact Below.refl _ _ | refine below_set ?_ (by first | omega | (simp; done) | (simp; omega)) _ | refine below_drawn ?_ | refine below_drawnN ?_ _ | refine below_new ?_ _))))
  have s0_w10 : w10.cell? ⟨w2.heap.size, 0, none⟩ = some (.int .i64 x3) := below_cell_of hb_w10 (by first | (go_simp; done) | (refine below_cell_of (w := w9) ?_ (by first | assumption | (go_simp; done)); (repeat (first | assumption | exact Below.refl _ _ | refine below_set ?_ (by first | omega | (simp; done) | (simp; omega)) _ | refine below_drawn ?_ | refine below_drawnN ?_ _ | refine below_new ?_ _))))
  have fzs0_w10 : w10.frozen? ⟨w2.heap.size, 0, none⟩ = false := below_frozen_of hb_w10 (by first | omega | (simp; done) | (simp; omega)) (by first | (go_simp; done) | (refine below_frozen_of (w := w9) ?_ (by omega) (by first | assumption | (go_simp; done)); (repeat (first | assumption | exact Below.refl _ _ | refine below_set ?_ (by first | omega | (simp; done) | (simp; omega)) _ | refine below_drawn ?_ | refine below_drawnN ?_ _ | refine below_new ?_ _))))
  have s1_w10 : w10.cell? ⟨w2.heap.size, 1, none⟩ = some (.int .i64 y3) := below_cell_of hb_w10 (by first | (go_simp; done) | (refine below_cell_of (w := w9) ?_ (by first | assumption | (go_simp; done)); (repeat (first | assumption | exact Below.refl _ _ | refine below_set ?_ (by first | omega | (simp; done) | (simp; omega)) _ | refine below_drawn ?_ | refine below_drawnN ?_ _ | refine below_new ?_ _))))
  have fzs1_w10 : w10.frozen? ⟨w2.heap.size, 1, none⟩ = false := below_frozen_of hb_w10 (by first | omega | (simp; done) | (simp; omega)) (by first | (go_simp; done) | (refine below_frozen_of (w := w9) ?_ (by omega) (by first | assumption | (go_simp; done)); (repeat (first | assumption | exact Below.refl _ _ | refine below_set ?_ (by first | omega | (simp; done) | (simp; omega)) _ | refine below_drawn ?_ | refine below_drawnN ?_ _ | refine below_new ?_ _))))
  have t0_w10 : w10.cell? ⟨w3.heap.size, 0, none⟩ = some (.int .i64 x3) := below_cell_of hb_w10 (by first | (go_simp; done) | (refine below_cell_of (w := w9) ?_ (by first | assumption | (go_simp; done)); (repeat (first | assumption | exact Below.refl _ _ | refine below_set ?_ (by first | omega | (simp; done) | (simp; omega)) _ | refine below_drawn ?_ | refine below_drawnN ?_ _ | refine below_new ?_ _))))
  have fzt0_w10 : w10.frozen? ⟨w3.heap.size, 0, none⟩ = false := below_frozen_of hb_w10 (by first | omega | (simp; done) | (simp; omega)) (by first | (go_simp; done) | (refine below_frozen_of (w := w9) ?_ (by omega) (by first | assumption | (go_simp; done)); (repeat (first | assumption | exact Below.refl _ _ | refine below_set ?_ (by first | omega | (simp; done) | (simp; omega)) _ | refine below_drawn ?_ | refine below_drawnN ?_ _ | refine below_new ?_ _))))
  have t1_w10 : w10.cell? ⟨w3.heap.size, 1, none⟩ = some (.int .i64 y3) := below_cell_of hb_w10 (by first | (go_simp; done) | (refine below_cell_of (w := w9) ?_ (by first | assumption | (go_simp; done)); (repeat (first | assumption | exact Below.refl _ _ | refine below_set ?_ (by first | omega | (simp; done) | (simp; omega)) _ | refine below_drawn ?_ | refine below_drawnN ?_ _ | refine below_new ?_ _))))
  have fzt1_w10 : w10.frozen? ⟨w3.heap.size, 1, none⟩ = false := below_frozen_of hb_w10 (by first | omega | (simp; done) | (simp; omega)) (by first | (go_simp; done) | (refine below_frozen_of (w := w9) ?_ (by omega) (by first | assumption | (go_simp; done)); (repeat (first | assumption | exact Below.refl _ _ | refine below_set ?_ (by first | omega | (simp; done) | (simp; omega)) _ | refine below_drawn ?_ | refine below_drawnN ?_ _ | refine below_new ?_ _))))
  go_wp2_with fail
  refine (rdiv_any an ad bn bd _).mono ?_
  rw [HDIV.out]
  rintro e w11 ⟨rfl, hb_w11⟩
  have hB_w11 : Below w.heap.size w w11 := below_on (by first | ((repeat (first | assumption | exact Below.refl _ _ | refine below_set ?_ (by first | omega | (simp; done) | (simp; omega)) _ | refine below_drawn ?_ | refine below_drawnN ?_ _ | refine below_new ?_ _)); done) | (refine below_on hB_w10 ?_; (repeat (first | assumption | exact Below.refl _ _ | refine below_set ?_ (by first | omega | (simp; done) | (simp; omega)) _ | refine below_drawn ?_ | refine below_drawnN ?_ _ | refine below_new ?_ _)))) hb_w11
  have hz_w11 := hb_w11.size
  try simp only [World.size_setCell] at hz_w11
  try simp only [World.size_drew] at hz_w11
  try simp only [World.size_drewN] at hz_w11
  try simp only [World.size_alloc] at hz_w11
  try simp only [World.size_setCell] at hz_w11
  try simp only [World.size_drew] at hz_w11
  try simp only [World.size_drewN] at hz_w11
  try simp only [World.size_alloc] at hz_w11
  have hl0_w11 : w.heap.size < w11.heap.size := by omega
  have hl1_w11 : w.heap.size + 1 < w11.heap.size := by omega
  have hl2_w11 : w3.heap.size < w11.heap.size := by omega
  have hl3_w11 : w2.heap.size < w11.heap.size := by omega
  have a0_w11 : w11.cell? ⟨w.heap.size, 0, none⟩ = some (.int .i64 an) := below_cell_of hb_w11 (by first | (go_simp; done) | (refine below_cell_of (w := w10) ?_ (by first | assumption | (go_simp; done)); (repeat (first | assumption | exact Below.refl _ _ | refine below_set ?_ (by first | omega | (simp; done) | (simp; omega)) _ | refine below_drawn ?_ | refine below_drawnN ?_ _ | refine below_new ?_ _))))
  have a1_w11 : w11.cell? ⟨w.heap.size, 1, none⟩ = some (.int .i64 ad) := below_cell_of hb_w11 (by first | (go_simp; done) | (refine below_cell_of (w := w10) ?_ (by first | assumption | (go_simp; done)); (repeat (first | assumption | exact Below.refl _ _ | refine below_set ?_ (by first | omega | (simp; done) | (simp; omega)) _ | refine below_drawn ?_ | refine below_drawnN ?_ _ | refine below_new ?_ _))))
  have b0_w11 : w11.cell? ⟨w.heap.size + 1, 0, none⟩ = some (.int .i64 bn) := below_cell_of hb_w11 (by first | (go_simp; done) | (refine below_cell_of (w := w10) ?_ (by first | assumption | (go_simp; done)); (repeat (first | assumption | exact Below.refl _ _ | refine below_set ?_ (by first | omega | (simp; done) | (simp; omega)) _ | refine below_drawn ?_ | refine below_drawnN ?_ _ | refine below_new ?_ _))))
  have b1_w11 : w11.cell? ⟨w.heap.size + 1, 1, none⟩ = some (.int .i64 bd) := below_cell_of hb_w11 (by first | (go_simp; done) | (refine below_cell_of (w := w10) ?_ (by first | assumption | (go_simp; done)); (repeat (first | assumption | exact Below.refl _ _ | refine below_set ?_ (by first | omega | (simp; done) | (simp; omega)) _ | refine below_drawn ?_ | refine below_drawnN ?_ _ | refine below_new ?_ _))))
  have t0_w11 : w11.cell? ⟨w3.heap.size, 0, none⟩ = some (.int .i64 x3) := below_cell_of hb_w11 (by first | (go_simp; done) | (refine below_cell_of (w := w10) ?_ (by first | assumption | (go_simp; done)); (repeat (first | assumption | exact Below.refl _ _ | refine below_set ?_ (by first | omega | (simp; done) | (simp; omega)) _ | refine below_drawn ?_ | refine below_drawnN ?_ _ | refine below_new ?_ _))))
  have fzt0_w11 : w11.frozen? ⟨w3.heap.size, 0, none⟩ = false := below_frozen_of hb_w11 (by first | omega | (simp; done) | (simp; omega)) (by first | (go_simp; done) | (refine below_frozen_of (w := w10) ?_ (by omega) (by first | assumption | (go_simp; done)); (repeat (first | assumption | exact Below.refl _ _ | refine below_set ?_ (by first | omega | (simp; done) | (simp; omega)) _ | refine below_drawn ?_ | refine below_drawnN ?_ _ | refine below_new ?_ _))))
  have t1_w11 : w11.cell? ⟨w3.heap.size, 1, none⟩ = some (.int .i64 y3) := below_cell_of hb_w11 (by first | (go_simp; done) | (refine below_cell_of (w := w10) ?_ (by first | assumption | (go_simp; done)); (repeat (first | assumption | exact Below.refl _ _ | refine below_set ?_ (by first | omega | (simp; done) | (simp; omega)) _ | refine below_drawn ?_ | refine below_drawnN ?_ _ | refine below_new ?_ _))))
  have fzt1_w11 : w11.frozen? ⟨w3.heap.size, 1, none⟩ = false := below_frozen_of hb_w11 (by first | omega | (simp; done) | (simp; omega)) (by first | (go_simp; done) | (refine below_frozen_of (w := w10) ?_ (by omega) (by first | assumption | (go_simp; done)); (repeat (first | assumption | exact Below.refl _ _ | refine below_set ?_ (by first | omega | (simp; done) | (simp; omega)) _ | refine below_drawn ?_ | refine below_drawnN ?_ _ | refine below_new ?_ _))))
  have s0_w11 : w11.cell? ⟨w2.heap.size, 0, none⟩ = some (.int .i64 x4) := below_cell_of hb_w11 (by first | (go_simp; done) | (refine below_cell_of (w := w10) ?_ (by first | assumption | (go_simp; done)); (repeat (first | assumption | exact Below.refl _ _ | refine below_set ?_ (by first | omega | (simp; done) | (simp; omega)) _ | refine below_drawn ?_ | refine below_drawnN ?_ _ | refine below_new ?_ _))))
  have fzs0_w11 : w11.frozen? ⟨w2.heap.size, 0, none⟩ = false := below_frozen_of hb_w11 (by first | omega | (simp; done) | (simp; omega)) (by first | (go_simp; done) | (refine below_frozen_of (w := w10) ?_ (by omega) (by first | assumption | (go_simp; done)); (repeat (first | assumption | exact Below.refl _ _ | refine below_set ?_ (by first | omega | (simp; done) | (simp; omega)) _ | refine below_drawn ?_ | refine below_drawnN ?_ _ | refine below_new ?_ _))))
  have s1_w11 : w11.cell? ⟨w2.heap.size, 1, none⟩ = some (.int .i64 y4) := below_cell_of hb_w11 (by first | (go_simp; done) | (refine below_cell_of (w := w10) ?_ (by first | assumption | (go_simp; done)); (repeat (first | assumption | exact Below.refl _ _ | refine below_set ?_ (by first | omega | (simp; done) | (simp; omega)) _ | refine below_drawn ?_ | refine below_drawnN ?_ _ | refine below_new ?_ _))))
  have fzs1_w11 : w11.frozen? ⟨w2.heap.size, 1, none⟩ = false := below_frozen_of hb_w11 (by first | omega | (simp; done) | (simp; omega)) (by first | (go_simp; done) | (refine below_frozen_of (w := w10) ?_ (by omega) (by first | assumption | (go_simp; done)); (repeat (first | assumption | exact Below.refl _ _ | refine below_set ?_ (by first | omega | (simp; done) | (simp; omega)) _ | refine below_drawn ?_ | refine below_drawnN ?_ _ | refine below_new ?_ _))))
  go_wp2_with fail
  refine (cmp_any an ad bn bd _ ka kb).mono ?_
  rw [HCMP.out]
  rintro e w12 ⟨rfl, hb_w12⟩
  have hB_w12 : Below w.heap.size w w12 := below_on (by first | ((repeat (first | assumption | exact Below.refl _ _ | refine below_set ?_ (by first | omega | (simp; done) | (simp; omega)) _ | refine below_drawn ?_ | refine below_drawnN ?_ _ | refine below_new ?_ _)); done) | (refine below_on hB_w11 ?_; (repeat (first | assumption | exact Below.refl _ _ | refine below_set ?_ (by first | omega | (simp; done) | (simp; omega)) _ | refine below_drawn ?_ | refine below_drawnN ?_ _ | refine below_new ?_ _)))) hb_w12
  have hz_w12 := hb_w12.size
  try simp only [World.size_setCell] at hz_w12
  try simp only [World.size_drew] at hz_w12
  try simp only [World.size_drewN] at hz_w12
  try simp only [World.size_alloc] at hz_w12
  try simp only [World.size_setCell] at hz_w12
  try simp only [World.size_drew] at hz_w12
  try simp only [World.size_drewN] at hz_w12
  try simp only [World.size_alloc] at hz_w12
  have hl0_w12 : w.heap.size < w12.heap.size := by omega
  have hl1_w12 : w.heap.size + 1 < w12.heap.size := by omega
  have hl2_w12 : w2.heap.size < w12.heap.size := by omega
  have hl3_w12 : w3.heap.size < w12.heap.size := by omega
  have a0_w12 : w12.cell? ⟨w.heap.size, 0, none⟩ = some (.int .i64 an) := below_cell_of hb_w12 (by first | (go_simp; done) | (refine below_cell_of (w := w11) ?_ (by first | assumption | (go_simp; done)); (repeat (first | assumption | exact Below.refl _ _ | refine below_set ?_ (by first | omega | (simp; done) | (simp; omega)) _ | refine below_drawn ?_ | refine below_drawnN ?_ _ | refine below_new ?_ _))))
  have a1_w12 : w12.cell? ⟨w.heap.size, 1, none⟩ = some (.int .i64 ad) := below_cell_of hb_w12 (by first | (go_simp; done) | (refine below_cell_of (w := w11) ?_ (by first | assumption | (go_simp; done)); (repeat (first | assumption | exact Below.refl _ _ | refine below_set ?_ (by first | omega | (simp; done) | (simp; omega)) _ | refine below_drawn ?_ | refine below_drawnN ?_ _ | refine below_new ?_ _))))
  have b0_w12 : w12.cell? ⟨w.heap.size + 1, 0, none⟩ = some (.int .i64 bn) := below_cell_of hb_w12 (by first | (go_simp; done) | (refine below_cell_of (w := w11) ?_ (by first | assumption | (go_simp; done)); (repeat (first | assumption | exact Below.refl _ _ | refine below_set ?_ (by first | omega | (simp; done) | (simp; omega)) _ | refine below_drawn ?_ | refine below_drawnN ?_ _ | refine below_new ?_ _))))
  have b1_w12 : w12.cell? ⟨w.heap.size + 1, 1, none⟩ = some (.int .i64 bd) := below_cell_of hb_w12 (by first | (go_simp; done) | (refine below_cell_of (w := w11) ?_ (by first | assumption | (go_simp; done)); (repeat (first | assumption | exact Below.refl _ _ | refine below_set ?_ (by first | omega | (simp; done) | (simp; omega)) _ | refine below_drawn ?_ | refine below_drawnN ?_ _ | refine below_new ?_ _))))
  have s0_w12 : w12.cell? ⟨w2.heap.size, 0, none⟩ = some (.int .i64 x4) := below_cell_of hb_w12 (by first | (go_simp; done) | (refine below_cell_of (w := w11) ?_ (by first | assumption | (go_simp; done)); (repeat (first | assumption | exact Below.refl _ _ | refine below_set ?_ (by first | omega | (simp; done) | (simp; omega)) _ | refine below_drawn ?_ | refine below_drawnN ?_ _ | refine below_new ?_ _))))
  have fzs0_w12 : w12.frozen? ⟨w2.heap.size, 0, none⟩ = false := below_frozen_of hb_w12 (by first | omega | (simp; done) | (simp; omega)) (by first | (go_simp; done) | (refine below_frozen_of (w := w11) ?_ (by omega) (by first | assumption | (go_simp; done)); (repeat (first | assumption | exact Below.refl _ _ | refine below_set ?_ (by first | omega | (simp; done) | (simp; omega)) _ | refine below_drawn ?_ | refine below_drawnN ?_ _ | refine below_new ?_ _))))
  have s1_w12 : w12.cell? ⟨w2.heap.size, 1, none⟩ = some (.int .i64 y4) := below_cell_of hb_w12 (by first | (go_simp; done) | (refine below_cell_of (w := w11) ?_ (by first | assumption | (go_simp; done)); (repeat (first | assumption | exact Below.refl _ _ | refine below_set ?_ (by first | omega | (simp; done) | (simp; omega)) _ | refine below_drawn ?_ | refine below_drawnN ?_ _ | refine below_new ?_ _))))
  have fzs1_w12 : w12.frozen? ⟨w2.heap.size, 1, none⟩ = false := below_frozen_of hb_w12 (by first | omega | (simp; done) | (simp; omega)) (by first | (go_simp; done) | (refine below_frozen_of (w := w11) ?_ (by omega) (by first | assumption | (go_simp; done)); (repeat (first | assumption | exact Below.refl _ _ | refine below_set ?_ (by first | omega | (simp; done) | (simp; omega)) _ | refine below_drawn ?_ | refine below_drawnN ?_ _ | refine below_new ?_ _))))
  have t0_w12 : w12.cell? ⟨w3.heap.size, 0, none⟩ = some (.int .i64 x4) := below_cell_of hb_w12 (by first | (go_simp; done) | (refine below_cell_of (w := w11) ?_ (by first | assumption | (go_simp; done)); (repeat (first | assumption | exact Below.refl _ _ | refine below_set ?_ (by first | omega | (simp; done) | (simp; omega)) _ | refine below_drawn ?_ | refine below_drawnN ?_ _ | refine below_new ?_ _))))
  have fzt0_w12 : w12.frozen? ⟨w3.heap.size, 0, none⟩ = false := below_frozen_of hb_w12 (by first | omega | (simp; done) | (simp; omega)) (by first | (go_simp; done) | (refine below_frozen_of (w := w11) ?_ (by omega) (by first | assumption | (go_simp; done)); (repeat (first | assumption | exact Below.refl _ _ | refine below_set ?_ (by first | omega | (simp; done) | (simp; omega)) _ | refine below_drawn ?_ | refine below_drawnN ?_ _ | refine below_new ?_ _))))
  have t1_w12 : w12.cell? ⟨w3.heap.size, 1, none⟩ = some (.int .i64 y4) := below_cell_of hb_w12 (by first | (go_simp; done) | (refine below_cell_of (w := w11) ?_ (by first | assumption | (go_simp; done)); (repeat (first | assumption | exact Below.refl _ _ | refine below_set ?_ (by first | omega | (simp; done) | (simp; omega)) _ | refine below_drawn ?_ | refine below_drawnN ?_ _ | refine below_new ?_ _))))
  have fzt1_w12 : w12.frozen? ⟨w3.heap.size, 1, none⟩ = false := below_frozen_of hb_w12 (by first | omega | (simp; done) | (simp; omega)) (by first | (go_simp; done) | (refine below_frozen_of (w := w11) ?_ (by omega) (by first | assumption | (go_simp; done)); (repeat (first | assumption | exact Below.refl _ _ | refine below_set ?_ (by first | omega | (simp; done) | (simp; omega)) _ | refine below_drawn ?_ | refine below_drawnN ?_ _ | refine below_new ?_ _))))
  go_wp2_with fail
  refine (rcmp_any an ad bn bd _).mono ?_
  rw [HCMP.out]
  rintro e w13 ⟨rfl, hb_w13⟩
  have hB_w13 : Below w.heap.size w w13 := below_on (by first | ((repeat (first | assumption | exact Below.refl _ _ | refine below_set ?_ (by first | omega | (simp; done) | (simp; omega)) _ | refine below_drawn ?_ | refine below_drawnN ?_ _ | refine below_new ?_ _)); done) | (refine below_on hB_w12 ?_; (repeat (first | assumption | exact Below.refl _ _ | refine below_set ?_ (by first | omega | (simp; done) | (simp; omega)) _ | refine below_drawn ?_ | refine below_drawnN ?_ _ | refine below_new ?_ _)))) hb_w13
  have hz_w13 := hb_w13.size
  try simp only [World.size_setCell] at hz_w13
  try simp only [World.size_drew] at hz_w13
  try simp only [World.size_drewN] at hz_w13
  try simp only [World.size_alloc] at hz_w13
  try simp only [World.size_setCell] at hz_w13
  try simp only [World.size_drew] at hz_w13
  try simp only [World.size_drewN] at hz_w13
  try simp only [World.size_alloc] at hz_w13
  have hl0_w13 : w.heap.size < w13.heap.size := by omega
  have hl1_w13 : w.heap.size + 1 < w13.heap.size := by omega
  have hl2_w13 : w2.heap.size < w13.heap.size := by omega
  have hl3_w13 : w3.heap.size < w13.heap.size := by omega
  have a0_w13 : w13.cell? ⟨w.heap.size, 0, none⟩ = some (.int .i64 an) := below_cell_of hb_w13 (by first | (go_simp; done) | (refine below_cell_of (w := w12) ?_ (by first | assumption | (go_simp; done)); (repeat (first | assumption | exact Below.refl _ _ | refine below_set ?_ (by first | omega | (simp; done) | (simp; omega)) _ | refine below_drawn ?_ | refine below_drawnN ?_ _ | refine below_new ?_ _))))
  have a1_w13 : w13.cell? ⟨w.heap.size, 1, none⟩ = some (.int .i64 ad) := below_cell_of hb_w13 (by first | (go_simp; done) | (refine below_cell_of (w := w12) ?_ (by first | assumption | (go_simp; done)); (repeat (first | assumption | exact Below.refl _ _ | refine below_set ?_ (by first | omega | (simp; done) | (simp; omega)) _ | refine below_drawn ?_ | refine below_drawnN ?_ _ | refine below_new ?_ _))))
  have b0_w13 : w13.cell? ⟨w.heap.size + 1, 0, none⟩ = some (.int .i64 bn) := below_cell_of hb_w13 (by first | (go_simp; done) | (refine below_cell_of (w := w12) ?_ (by first | assumption | (go_simp; done)); (repeat (first | assumption | exact Below.refl _ _ | refine below_set ?_ (by first | omega | (simp; done) | (simp; omega)) _ | refine below_drawn ?_ | refine below_drawnN ?_ _ | refine below_new ?_ _))))
  have b1_w13 : w13.cell? ⟨w.heap.size + 1, 1, none⟩ = some (.int .i64 bd) := below_cell_of hb_w13 (by first | (go_simp; done) | (refine below_cell_of (w := w12) ?_ (by first | assumption | (go_simp; done)); (repeat (first | assumption | exact Below.refl _ _ | refine below_set ?_ (by first | omega | (simp; done) | (simp; omega)) _ | refine below_drawn ?_ | refine below_drawnN ?_ _ | refine below_new ?_ _))))
  have s0_w13 : w13.cell? ⟨w2.heap.size, 0, none⟩ = some (.int .i64 x4) := below_cell_of hb_w13 (by first | (go_simp; done) | (refine below_cell_of (w := w12) ?_ (by first | assumption | (go_simp; done)); (repeat (first | assumption | exact Below.refl _ _ | refine below_set ?_ (by first | omega | (simp; done) | (simp; omega)) _ | refine below_drawn ?_ | refine below_drawnN ?_ _ | refine below_new ?_ _))))
  have fzs0_w13 : w13.frozen? ⟨w2.heap.size, 0, none⟩ = false := below_frozen_of hb_w13 (by first | omega | (simp; done) | (simp; omega)) (by first | (go_simp; done) | (refine below_frozen_of (w := w12) ?_ (by omega) (by first | assumption | (go_simp; done)); (repeat (first | assumption | exact Below.refl _ _ | refine below_set ?_ (by first | omega | (simp; done) | (simp; omega)) _ | refine below_drawn ?_ | refine below_drawnN ?_ _ | refine below_new ?_ _))))
  have s1_w13 : w13.cell? ⟨w2.heap.size, 1, none⟩ = some (.int .i64 y4) := below_cell_of hb_w13 (by first | (go_simp; done) | (refine below_cell_of (w := w12) ?_ (by first | assumption | (go_simp; done)); (repeat (first | assumption | exact Below.refl _ _ | refine below_set ?_ (by first | omega | (simp; done) | (simp; omega)) _ | refine below_drawn ?_ | refine below_drawnN ?_ _ | refine below_new ?_ _))))
  have fzs1_w13 : w13.frozen? ⟨w2.heap.size, 1, none⟩ = false := below_frozen_of hb_w13 (by first | omega | (simp; done) | (simp; omega)) (by first | (go_simp; done) | (refine below_frozen_of (w := w12) ?_ (by omega) (by first | assumption | (go_simp; done)); (repeat (first | assumption | exact Below.refl _ _ | refine below_set ?_ (by first | omega | (simp; done) | (simp; omega)) _ | refine below_drawn ?_ | refine below_drawnN ?_ _ | refine below_new ?_ _))))
  have t0_w13 : w13.cell? ⟨w3.heap.size, 0, none⟩ = some (.int .i64 x4) := below_cell_of hb_w13 (by first | (go_simp; done) | (refine below_cell_of (w := w12) ?_ (by first | assumption | (go_simp; done)); (repeat (first | assumption | exact Below.refl _ _ | refine below_set ?_ (by first | omega | (simp; done) | (simp; omega)) _ | refine below_drawn ?_ | refine below_drawnN ?_ _ | refine below_new ?_ _))))
  have fzt0_w13 : w13.frozen? ⟨w3.heap.size, 0, none⟩ = false := below_frozen_of hb_w13 (by first | omega | (simp; done) | (simp; omega)) (by first | (go_simp; done) | (refine below_frozen_of (w := w12) ?_ (by omega) (by first | assumption | (go_simp; done)); (repeat (first | assumption | exact Below.refl _ _ | refine below_set ?_ (by first | omega | (simp; done) | (simp; omega)) _ | refine below_drawn ?_ | refine below_drawnN ?_ _ | refine below_new ?_ _))))
  have t1_w13 : w13.cell? ⟨w3.heap.size, 1, none⟩ = some (.int .i64 y4) := below_cell_of hb_w13 (by first | (go_simp; done) | (refine below_cell_of (w := w12) ?_ (by first | assumption | (go_simp; done)); (repeat (first | assumption | exact Below.refl _ _ | refine below_set ?_ (by first | omega | (simp; done) | (simp; omega)) _ | refine below_drawn ?_ | refine below_drawnN ?_ _ | refine below_new ?_ _))))
  have fzt1_w13 : w13.frozen? ⟨w3.heap.size, 1, none⟩ = false := below_frozen_of hb_w13 (by first | omega | (simp; done) | (simp; omega)) (by first | (go_simp; done) | (refine below_frozen_of (w := w12) ?_ (by omega) (by first | assumption | (go_simp; done)); (repeat (first | assumption | exact Below.refl _ _ | refine below_set ?_ (by first | omega | (simp; done) | (simp; omega)) _ | refine below_drawn ?_ | refine below_drawnN ?_ _ | refine below_new ?_ _))))
  go_wp2
  refine wp_region_held_drew (S := (fun W => W.cell? ⟨w.heap.size, 0, none⟩ = some (.int .i64 an) ∧ W.cell? ⟨w.heap.size, 1, none⟩ = some (.int .i64 ad) ∧ Below w.heap.size w W)) (by kernel_rfl) ?_ (fun hHeld => ?_)
  · exact ⟨by first | assumption | (go_simp; done), by first | assumption | (go_simp; done), by (repeat (first | assumption | exact Below.refl _ _ | refine below_set ?_ (by first | omega | (simp; done) | (simp; omega)) _ | refine below_drawn ?_ | refine below_drawnN ?_ _ | refine below_new ?_ _))⟩
  refine wpAnyH_take (i := 0) (v := ?_) rfl (by kernel_rfl) (by kernel_rfl) (by kernel_rfl) (fun _ _ _ h => h) (Or.inl ⟨by rfl, ?_⟩) hHeld ?_
  rotate_left
  · intro wS hSw; obtain ⟨hS0, hS1, hS2⟩ := hSw; go_simp; try with_reducible rfl
  try go_simp
  refine wpAnyH_take (i := 1) (v := ?_) rfl (by kernel_rfl) (by kernel_rfl) (by kernel_rfl) (fun _ _ _ h => h) (Or.inl ⟨by rfl, ?_⟩) hHeld ?_
  rotate_left
  · intro wS hSw; obtain ⟨hS0, hS1, hS2⟩ := hSw; go_simp; try with_reducible rfl
  try go_simp
  refine wpAnyH_take (i := 2) (v := ?_) rfl (by kernel_rfl) (by kernel_rfl) (by kernel_rfl) (fun _ _ _ h => h) (Or.inl ⟨by rfl, ?_⟩) hHeld ?_
  rotate_left
  · intro wS hSw; obtain ⟨hS0, hS1, hS2⟩ := hSw; go_simp; try with_reducible rfl
  try go_simp
  refine wpAnyH_take (i := 3) (v := ?_) rfl (by kernel_rfl) (by kernel_rfl) (by kernel_rfl) (fun _ _ _ h => h) (Or.inl ⟨by rfl, ?_⟩) hHeld ?_
  rotate_left
  · intro wS hSw; obtain ⟨hS0, hS1, hS2⟩ := hSw; go_simp; try with_reducible rfl
  try go_simp
  refine wpAnyH_take (i := 4) (v := ?_) rfl (by kernel_rfl) (by kernel_rfl) (by kernel_rfl) (fun _ _ _ h => h) (Or.inl ⟨by rfl, ?_⟩) hHeld ?_
  rotate_left
  · intro wS hSw; obtain ⟨hS0, hS1, hS2⟩ := hSw; go_simp; try with_reducible rfl
  try go_simp
  refine wpAnyH_take (i := 5) (v := ?_) rfl (by kernel_rfl) (by kernel_rfl) (by kernel_rfl) (fun _ _ _ h => h) (Or.inl ⟨by rfl, ?_⟩) hHeld ?_
  rotate_left
  · intro wS hSw; obtain ⟨hS0, hS1, hS2⟩ := hSw; go_simp; try with_reducible rfl
  try go_simp
  refine wpAnyH_take (i := 6) (v := ?_) rfl (by kernel_rfl) (by kernel_rfl) (by kernel_rfl) (fun _ _ _ h => h) (Or.inl ⟨by rfl, ?_⟩) hHeld ?_
  rotate_left
  · intro wS hSw; obtain ⟨hS0, hS1, hS2⟩ := hSw; go_simp; try with_reducible rfl
  try go_simp
  refine wpAnyH_take (i := 7) (v := ?_) rfl (by kernel_rfl) (by kernel_rfl) (by kernel_rfl) (fun _ _ _ h => h) (Or.inl ⟨by rfl, ?_⟩) hHeld ?_
  rotate_left
  · intro wS hSw; obtain ⟨hS0, hS1, hS2⟩ := hSw; go_simp; try with_reducible rfl
  try go_simp
  refine wpAnyH_take (i := 8) (v := ?_) rfl (by kernel_rfl) (by kernel_rfl) (by kernel_rfl) (fun _ _ _ h => h) (Or.inl ⟨by rfl, ?_⟩) hHeld ?_
  rotate_left
  · intro wS hSw; obtain ⟨hS0, hS1, hS2⟩ := hSw; go_simp; try with_reducible rfl
  try go_simp
  refine wpAnyH_take (i := 9) (v := ?_) rfl (by kernel_rfl) (by kernel_rfl) (by kernel_rfl) (fun _ _ _ h => h) (Or.inl ⟨by rfl, ?_⟩) hHeld ?_
  rotate_left
  · intro wS hSw; obtain ⟨hS0, hS1, hS2⟩ := hSw; go_simp; try with_reducible rfl
  try go_simp
  refine wpAnyH_take (i := 10) (v := ?_) rfl (by kernel_rfl) (by kernel_rfl) (by kernel_rfl) (fun _ _ _ h => h) (Or.inl ⟨by rfl, ?_⟩) hHeld ?_
  rotate_left
  · intro wS hSw; obtain ⟨hS0, hS1, hS2⟩ := hSw; go_simp; try with_reducible rfl
  try go_simp
  refine wpAnyH_take (i := 11) (v := ?_) rfl (by kernel_rfl) (by kernel_rfl) (by kernel_rfl) (fun _ _ _ h => h) (Or.inl ⟨by rfl, ?_⟩) hHeld ?_
  rotate_left
  · intro wS hSw; obtain ⟨hS0, hS1, hS2⟩ := hSw; go_simp; try with_reducible rfl
  try go_simp
  refine wpAnyH_take (i := 12) (v := ?_) rfl (by kernel_rfl) (by kernel_rfl) (by kernel_rfl) (fun _ _ _ h => h) (Or.inl ⟨by rfl, ?_⟩) hHeld ?_
  rotate_left
  · intro wS hSw; obtain ⟨hS0, hS1, hS2⟩ := hSw; go_simp; try with_reducible rfl
  try go_simp
  refine wpAnyH_take (i := 14) (v := ?_) rfl (by kernel_rfl) (by kernel_rfl) (by kernel_rfl) (fun _ _ _ h => h) (Or.inl ⟨by rfl, ?_⟩) hHeld ?_
  rotate_left
  · intro wS hSw; obtain ⟨hS0, hS1, hS2⟩ := hSw; go_simp; try with_reducible rfl
  try go_simp
  refine wpAnyH_ready (rs := [13]) (by kernel_rfl) (by simp) ?_
  refine AllReadyH.cons rfl (fun K hK => ?_) AllReadyH.nil
  go_simp
  refine (valid_any an ad _ ka).mono ?_
  rw [HVAL.out]
  rintro e w14 ⟨rfl, hb_w14⟩
  have hB_w14 : Below w.heap.size w w14 := below_on (by first | ((repeat (first | assumption | exact Below.refl _ _ | refine below_set ?_ (by first | omega | (simp; done) | (simp; omega)) _ | refine below_drawn ?_ | refine below_drawnN ?_ _ | refine below_new ?_ _)); done) | (refine below_on hB_w13 ?_; (repeat (first | assumption | exact Below.refl _ _ | refine below_set ?_ (by first | omega | (simp; done) | (simp; omega)) _ | refine below_drawn ?_ | refine below_drawnN ?_ _ | refine below_new ?_ _)))) hb_w14
  have hz_w14 := hb_w14.size
  try simp only [World.size_setCell] at hz_w14
  try simp only [World.size_drew] at hz_w14
  try simp only [World.size_drewN] at hz_w14
  try simp only [World.size_alloc] at hz_w14
  try simp only [World.size_setCell] at hz_w14
  try simp only [World.size_drew] at hz_w14
  try simp only [World.size_drewN] at hz_w14
  try simp only [World.size_alloc] at hz_w14
  have hl0_w14 : w.heap.size < w14.heap.size := by omega
  have a0_w14 : w14.cell? ⟨w.heap.size, 0, none⟩ = some (.int .i64 an) := below_cell_of hb_w14 (by first | (go_simp; done) | (refine below_cell_of (w := w13) ?_ (by first | assumption | (go_simp; done)); (repeat (first | assumption | exact Below.refl _ _ | refine below_set ?_ (by first | omega | (simp; done) | (simp; omega)) _ | refine below_drawn ?_ | refine below_drawnN ?_ _ | refine below_new ?_ _))))
  have a1_w14 : w14.cell? ⟨w.heap.size, 1, none⟩ = some (.int .i64 ad) := below_cell_of hb_w14 (by first | (go_simp; done) | (refine below_cell_of (w := w13) ?_ (by first | assumption | (go_simp; done)); (repeat (first | assumption | exact Below.refl _ _ | refine below_set ?_ (by first | omega | (simp; done) | (simp; omega)) _ | refine below_drawn ?_ | refine below_drawnN ?_ _ | refine below_new ?_ _))))
  refine hK.out _ _ ?_ (fun hHeld => ?_)
  · exact ⟨by first | assumption | (go_simp; done), by first | assumption | (go_simp; done), by (repeat (first | assumption | exact Below.refl _ _ | refine below_set ?_ (by first | omega | (simp; done) | (simp; omega)) _ | refine below_drawn ?_ | refine below_drawnN ?_ _ | refine below_new ?_ _))⟩
  clear hK K
  try go_simp
  refine wpAnyH_ready (rs := [15]) (by kernel_rfl) (by simp) ?_
  refine AllReadyH.cons rfl (fun K hK => ?_) AllReadyH.nil
  go_simp
  refine (rvalid_any an ad _).mono ?_
  rw [HVAL.out]
  rintro e w15 ⟨rfl, hb_w15⟩
  have hB_w15 : Below w.heap.size w w15 := below_on (by first | ((repeat (first | assumption | exact Below.refl _ _ | refine below_set ?_ (by first | omega | (simp; done) | (simp; omega)) _ | refine below_drawn ?_ | refine below_drawnN ?_ _ | refine below_new ?_ _)); done) | (refine below_on hB_w14 ?_; (repeat (first | assumption | exact Below.refl _ _ | refine below_set ?_ (by first | omega | (simp; done) | (simp; omega)) _ | refine below_drawn ?_ | refine below_drawnN ?_ _ | refine below_new ?_ _)))) hb_w15
  have hz_w15 := hb_w15.size
  try simp only [World.size_setCell] at hz_w15
  try simp only [World.size_drew] at hz_w15
  try simp only [World.size_drewN] at hz_w15
  try simp only [World.size_alloc] at hz_w15
  try simp only [World.size_setCell] at hz_w15
  try simp only [World.size_drew] at hz_w15
  try simp only [World.size_drewN] at hz_w15
  try simp only [World.size_alloc] at hz_w15
  have hl0_w15 : w.heap.size < w15.heap.size := by omega
  have a0_w15 : w15.cell? ⟨w.heap.size, 0, none⟩ = some (.int .i64 an) := below_cell_of hb_w15 (by first | (go_simp; done) | (refine below_cell_of (w := w14) ?_ (by first | assumption | (go_simp; done)); (repeat (first | assumption | exact Below.refl _ _ | refine below_set ?_ (by first | omega | (simp; done) | (simp; omega)) _ | refine below_drawn ?_ | refine below_drawnN ?_ _ | refine below_new ?_ _))))
  have a1_w15 : w15.cell? ⟨w.heap.size, 1, none⟩ = some (.int .i64 ad) := below_cell_of hb_w15 (by first | (go_simp; done) | (refine below_cell_of (w := w14) ?_ (by first | assumption | (go_simp; done)); (repeat (first | assumption | exact Below.refl _ _ | refine below_set ?_ (by first | omega | (simp; done) | (simp; omega)) _ | refine below_drawn ?_ | refine below_drawnN ?_ _ | refine below_new ?_ _))))
  refine hK.out _ _ ?_ (fun hHeld => ?_)
  · exact ⟨by first | assumption | (go_simp; done), by first | assumption | (go_simp; done), by (repeat (first | assumption | exact Below.refl _ _ | refine below_set ?_ (by first | omega | (simp; done) | (simp; omega)) _ | refine below_drawn ?_ | refine below_drawnN ?_ _ | refine below_new ?_ _))⟩
  clear hK K
  try go_simp
  refine wpAnyH_take (i := 16) (v := ?_) rfl (by kernel_rfl) (by kernel_rfl) (by kernel_rfl) (fun _ _ _ h => h) (Or.inl ⟨by rfl, ?_⟩) hHeld ?_
  rotate_left
  · intro wS hSw; obtain ⟨hS0, hS1, hS2⟩ := hSw; go_simp; try with_reducible rfl
  try go_simp
  refine wpAnyH_take (i := 17) (v := ?_) rfl (by kernel_rfl) (by kernel_rfl) (by kernel_rfl) (fun _ _ _ h => h) (Or.inl ⟨by rfl, ?_⟩) hHeld ?_
  rotate_left
  · intro wS hSw; obtain ⟨hS0, hS1, hS2⟩ := hSw; go_simp; try with_reducible rfl
  try go_simp
  refine wpAnyH_take (i := 18) (v := ?_) rfl (by kernel_rfl) (by kernel_rfl) (by kernel_rfl) (fun _ _ _ h => h) (Or.inl ⟨by rfl, ?_⟩) hHeld ?_
  rotate_left
  · intro wS hSw; obtain ⟨hS0, hS1, hS2⟩ := hSw; go_simp; try with_reducible rfl
  try go_simp
  refine wpAnyH_done (by kernel_rfl) ?_ _
  obtain ⟨_, _, hBW⟩ := hHeld
  go_wp2
  go_ret
  exact ⟨rfl, hBW⟩
theorem match_entry (an ad bn bd num den : Int) (w : World) (ka : an ≤ 9223372036854775807) (kb : bn ≤ 9223372036854775807) : Calls Try.prog 3 #[.agg #[.int .i64 an, .int .i64 ad], .agg #[.int .i64 bn, .int .i64 bd], .int .i64 num, .int .i64 den] w fun e w' => e = .returned (.bool true) ∧ Below w.heap.size w w' :=
  match_walk an ad bn bd num den _ _ _ _ _ _ _ _ _ _ _ _ _ _ _ _ _ w _ ka kb rfl rfl rfl rfl rfl rfl rfl
end Go.Proofs.Ytjnjokkhkfdaiaa
