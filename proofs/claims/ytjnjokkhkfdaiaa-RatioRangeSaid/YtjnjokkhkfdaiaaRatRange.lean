/- The statement RatioRange: it returns true, whatever the input, and leaves what was in memory alone. -/
import Derived.Test.YtjnjokkhkfdaiaaRatHead
namespace Go.Proofs.Ytjnjokkhkfdaiaa
open Go.RowKit

set_option maxHeartbeats 4000000 in
set_option maxRecDepth 100000 in
theorem range_bad1 (an ad bn bd : Int) (w : World) (ha : Rt.valid an ad = false) : Calls Try.prog 9 #[.agg #[.int .i64 an, .int .i64 ad], .agg #[.int .i64 bn, .int .i64 bd]] w fun e w' => e = .returned (.bool true) ∧ Below w.heap.size w w' := by
  have HA := Lib.hid ha
  clear ha
  go_enter Try.func9, Try.ntmps9
  go_wp2_with fail
  refine (head_ok _).mono ?_
  rintro e w1 ⟨rfl, hb_w1⟩
  have hB_w1 : Below w.heap.size w w1 := below_on (by (repeat (first | assumption | exact Below.refl _ _ | refine below_set ?_ (by first | omega | (simp; done) | (simp; omega)) _ | refine below_drawn ?_ | refine below_drawnN ?_ _ | refine below_new ?_ _))) hb_w1
  have hz_w1 := hb_w1.size
  try simp only [World.size_setCell] at hz_w1
  try simp only [World.size_drew] at hz_w1
  try simp only [World.size_drewN] at hz_w1
  try simp only [World.size_alloc] at hz_w1
  try simp only [World.size_setCell] at hz_w1
  try simp only [World.size_drew] at hz_w1
  try simp only [World.size_drewN] at hz_w1
  try simp only [World.size_alloc] at hz_w1
  have hl0_w1 : w.heap.size < w1.heap.size := by omega
  have hl1_w1 : w.heap.size + 1 < w1.heap.size := by omega
  have a0_w1 : w1.cell? ⟨w.heap.size, 0, none⟩ = some (.int .i64 an) := below_cell_of hb_w1 (by first | (go_simp; done) | (refine below_cell_of (w := w) ?_ (by first | assumption | (go_simp; done)); (repeat (first | assumption | exact Below.refl _ _ | refine below_set ?_ (by first | omega | (simp; done) | (simp; omega)) _ | refine below_drawn ?_ | refine below_drawnN ?_ _ | refine below_new ?_ _))))
  have a1_w1 : w1.cell? ⟨w.heap.size, 1, none⟩ = some (.int .i64 ad) := below_cell_of hb_w1 (by first | (go_simp; done) | (refine below_cell_of (w := w) ?_ (by first | assumption | (go_simp; done)); (repeat (first | assumption | exact Below.refl _ _ | refine below_set ?_ (by first | omega | (simp; done) | (simp; omega)) _ | refine below_drawn ?_ | refine below_drawnN ?_ _ | refine below_new ?_ _))))
  have b0_w1 : w1.cell? ⟨w.heap.size + 1, 0, none⟩ = some (.int .i64 bn) := below_cell_of hb_w1 (by first | (go_simp; done) | (refine below_cell_of (w := w) ?_ (by first | assumption | (go_simp; done)); (repeat (first | assumption | exact Below.refl _ _ | refine below_set ?_ (by first | omega | (simp; done) | (simp; omega)) _ | refine below_drawn ?_ | refine below_drawnN ?_ _ | refine below_new ?_ _))))
  have b1_w1 : w1.cell? ⟨w.heap.size + 1, 1, none⟩ = some (.int .i64 bd) := below_cell_of hb_w1 (by first | (go_simp; done) | (refine below_cell_of (w := w) ?_ (by first | assumption | (go_simp; done)); (repeat (first | assumption | exact Below.refl _ _ | refine below_set ?_ (by first | omega | (simp; done) | (simp; omega)) _ | refine below_drawn ?_ | refine below_drawnN ?_ _ | refine below_new ?_ _))))
  go_wp2_with fail
  refine (rvalid_any an ad _).mono ?_
  rw [HA.out]
  rintro e w2 ⟨rfl, hb_w2⟩
  have hB_w2 : Below w.heap.size w w2 := below_on (by first | ((repeat (first | assumption | exact Below.refl _ _ | refine below_set ?_ (by first | omega | (simp; done) | (simp; omega)) _ | refine below_drawn ?_ | refine below_drawnN ?_ _ | refine below_new ?_ _)); done) | (refine below_on hB_w1 ?_; (repeat (first | assumption | exact Below.refl _ _ | refine below_set ?_ (by first | omega | (simp; done) | (simp; omega)) _ | refine below_drawn ?_ | refine below_drawnN ?_ _ | refine below_new ?_ _)))) hb_w2
  have hz_w2 := hb_w2.size
  try simp only [World.size_setCell] at hz_w2
  try simp only [World.size_drew] at hz_w2
  try simp only [World.size_drewN] at hz_w2
  try simp only [World.size_alloc] at hz_w2
  try simp only [World.size_setCell] at hz_w2
  try simp only [World.size_drew] at hz_w2
  try simp only [World.size_drewN] at hz_w2
  try simp only [World.size_alloc] at hz_w2
  have hl0_w2 : w.heap.size < w2.heap.size := by omega
  have hl1_w2 : w.heap.size + 1 < w2.heap.size := by omega
  have a0_w2 : w2.cell? ⟨w.heap.size, 0, none⟩ = some (.int .i64 an) := below_cell_of hb_w2 (by first | (go_simp; done) | (refine below_cell_of (w := w1) ?_ (by first | assumption | (go_simp; done)); (repeat (first | assumption | exact Below.refl _ _ | refine below_set ?_ (by first | omega | (simp; done) | (simp; omega)) _ | refine below_drawn ?_ | refine below_drawnN ?_ _ | refine below_new ?_ _))))
  have a1_w2 : w2.cell? ⟨w.heap.size, 1, none⟩ = some (.int .i64 ad) := below_cell_of hb_w2 (by first | (go_simp; done) | (refine below_cell_of (w := w1) ?_ (by first | assumption | (go_simp; done)); (repeat (first | assumption | exact Below.refl _ _ | refine below_set ?_ (by first | omega | (simp; done) | (simp; omega)) _ | refine below_drawn ?_ | refine below_drawnN ?_ _ | refine below_new ?_ _))))
  have b0_w2 : w2.cell? ⟨w.heap.size + 1, 0, none⟩ = some (.int .i64 bn) := below_cell_of hb_w2 (by first | (go_simp; done) | (refine below_cell_of (w := w1) ?_ (by first | assumption | (go_simp; done)); (repeat (first | assumption | exact Below.refl _ _ | refine below_set ?_ (by first | omega | (simp; done) | (simp; omega)) _ | refine below_drawn ?_ | refine below_drawnN ?_ _ | refine below_new ?_ _))))
  have b1_w2 : w2.cell? ⟨w.heap.size + 1, 1, none⟩ = some (.int .i64 bd) := below_cell_of hb_w2 (by first | (go_simp; done) | (refine below_cell_of (w := w1) ?_ (by first | assumption | (go_simp; done)); (repeat (first | assumption | exact Below.refl _ _ | refine below_set ?_ (by first | omega | (simp; done) | (simp; omega)) _ | refine below_drawn ?_ | refine below_drawnN ?_ _ | refine below_new ?_ _))))
  go_wp2
  go_ret
  exact ⟨rfl, hB_w2⟩
set_option maxHeartbeats 4000000 in
set_option maxRecDepth 100000 in
theorem range_bad2 (an ad bn bd : Int) (w : World) (ha : Rt.valid an ad = true) (hb : Rt.valid bn bd = false) : Calls Try.prog 9 #[.agg #[.int .i64 an, .int .i64 ad], .agg #[.int .i64 bn, .int .i64 bd]] w fun e w' => e = .returned (.bool true) ∧ Below w.heap.size w w' := by
  have HA := Lib.hid ha
  have HB := Lib.hid hb
  clear ha hb
  go_enter Try.func9, Try.ntmps9
  go_wp2_with fail
  refine (head_ok _).mono ?_
  rintro e w1 ⟨rfl, hb_w1⟩
  have hB_w1 : Below w.heap.size w w1 := below_on (by (repeat (first | assumption | exact Below.refl _ _ | refine below_set ?_ (by first | omega | (simp; done) | (simp; omega)) _ | refine below_drawn ?_ | refine below_drawnN ?_ _ | refine below_new ?_ _))) hb_w1
  have hz_w1 := hb_w1.size
  try simp only [World.size_setCell] at hz_w1
  try simp only [World.size_drew] at hz_w1
  try simp only [World.size_drewN] at hz_w1
  try simp only [World.size_alloc] at hz_w1
  try simp only [World.size_setCell] at hz_w1
  try simp only [World.size_drew] at hz_w1
  try simp only [World.size_drewN] at hz_w1
  try simp only [World.size_alloc] at hz_w1
  have hl0_w1 : w.heap.size < w1.heap.size := by omega
  have hl1_w1 : w.heap.size + 1 < w1.heap.size := by omega
  have a0_w1 : w1.cell? ⟨w.heap.size, 0, none⟩ = some (.int .i64 an) := below_cell_of hb_w1 (by first | (go_simp; done) | (refine below_cell_of (w := w) ?_ (by first | assumption | (go_simp; done)); (repeat (first | assumption | exact Below.refl _ _ | refine below_set ?_ (by first | omega | (simp; done) | (simp; omega)) _ | refine below_drawn ?_ | refine below_drawnN ?_ _ | refine below_new ?_ _))))
  have a1_w1 : w1.cell? ⟨w.heap.size, 1, none⟩ = some (.int .i64 ad) := below_cell_of hb_w1 (by first | (go_simp; done) | (refine below_cell_of (w := w) ?_ (by first | assumption | (go_simp; done)); (repeat (first | assumption | exact Below.refl _ _ | refine below_set ?_ (by first | omega | (simp; done) | (simp; omega)) _ | refine below_drawn ?_ | refine below_drawnN ?_ _ | refine below_new ?_ _))))
  have b0_w1 : w1.cell? ⟨w.heap.size + 1, 0, none⟩ = some (.int .i64 bn) := below_cell_of hb_w1 (by first | (go_simp; done) | (refine below_cell_of (w := w) ?_ (by first | assumption | (go_simp; done)); (repeat (first | assumption | exact Below.refl _ _ | refine below_set ?_ (by first | omega | (simp; done) | (simp; omega)) _ | refine below_drawn ?_ | refine below_drawnN ?_ _ | refine below_new ?_ _))))
  have b1_w1 : w1.cell? ⟨w.heap.size + 1, 1, none⟩ = some (.int .i64 bd) := below_cell_of hb_w1 (by first | (go_simp; done) | (refine below_cell_of (w := w) ?_ (by first | assumption | (go_simp; done)); (repeat (first | assumption | exact Below.refl _ _ | refine below_set ?_ (by first | omega | (simp; done) | (simp; omega)) _ | refine below_drawn ?_ | refine below_drawnN ?_ _ | refine below_new ?_ _))))
  go_wp2_with fail
  refine (rvalid_any an ad _).mono ?_
  rw [HA.out]
  rintro e w2 ⟨rfl, hb_w2⟩
  have hB_w2 : Below w.heap.size w w2 := below_on (by first | ((repeat (first | assumption | exact Below.refl _ _ | refine below_set ?_ (by first | omega | (simp; done) | (simp; omega)) _ | refine below_drawn ?_ | refine below_drawnN ?_ _ | refine below_new ?_ _)); done) | (refine below_on hB_w1 ?_; (repeat (first | assumption | exact Below.refl _ _ | refine below_set ?_ (by first | omega | (simp; done) | (simp; omega)) _ | refine below_drawn ?_ | refine below_drawnN ?_ _ | refine below_new ?_ _)))) hb_w2
  have hz_w2 := hb_w2.size
  try simp only [World.size_setCell] at hz_w2
  try simp only [World.size_drew] at hz_w2
  try simp only [World.size_drewN] at hz_w2
  try simp only [World.size_alloc] at hz_w2
  try simp only [World.size_setCell] at hz_w2
  try simp only [World.size_drew] at hz_w2
  try simp only [World.size_drewN] at hz_w2
  try simp only [World.size_alloc] at hz_w2
  have hl0_w2 : w.heap.size < w2.heap.size := by omega
  have hl1_w2 : w.heap.size + 1 < w2.heap.size := by omega
  have a0_w2 : w2.cell? ⟨w.heap.size, 0, none⟩ = some (.int .i64 an) := below_cell_of hb_w2 (by first | (go_simp; done) | (refine below_cell_of (w := w1) ?_ (by first | assumption | (go_simp; done)); (repeat (first | assumption | exact Below.refl _ _ | refine below_set ?_ (by first | omega | (simp; done) | (simp; omega)) _ | refine below_drawn ?_ | refine below_drawnN ?_ _ | refine below_new ?_ _))))
  have a1_w2 : w2.cell? ⟨w.heap.size, 1, none⟩ = some (.int .i64 ad) := below_cell_of hb_w2 (by first | (go_simp; done) | (refine below_cell_of (w := w1) ?_ (by first | assumption | (go_simp; done)); (repeat (first | assumption | exact Below.refl _ _ | refine below_set ?_ (by first | omega | (simp; done) | (simp; omega)) _ | refine below_drawn ?_ | refine below_drawnN ?_ _ | refine below_new ?_ _))))
  have b0_w2 : w2.cell? ⟨w.heap.size + 1, 0, none⟩ = some (.int .i64 bn) := below_cell_of hb_w2 (by first | (go_simp; done) | (refine below_cell_of (w := w1) ?_ (by first | assumption | (go_simp; done)); (repeat (first | assumption | exact Below.refl _ _ | refine below_set ?_ (by first | omega | (simp; done) | (simp; omega)) _ | refine below_drawn ?_ | refine below_drawnN ?_ _ | refine below_new ?_ _))))
  have b1_w2 : w2.cell? ⟨w.heap.size + 1, 1, none⟩ = some (.int .i64 bd) := below_cell_of hb_w2 (by first | (go_simp; done) | (refine below_cell_of (w := w1) ?_ (by first | assumption | (go_simp; done)); (repeat (first | assumption | exact Below.refl _ _ | refine below_set ?_ (by first | omega | (simp; done) | (simp; omega)) _ | refine below_drawn ?_ | refine below_drawnN ?_ _ | refine below_new ?_ _))))
  go_wp2_with fail
  refine (rvalid_any bn bd _).mono ?_
  rw [HB.out]
  rintro e w3 ⟨rfl, hb_w3⟩
  have hB_w3 : Below w.heap.size w w3 := below_on (by first | ((repeat (first | assumption | exact Below.refl _ _ | refine below_set ?_ (by first | omega | (simp; done) | (simp; omega)) _ | refine below_drawn ?_ | refine below_drawnN ?_ _ | refine below_new ?_ _)); done) | (refine below_on hB_w2 ?_; (repeat (first | assumption | exact Below.refl _ _ | refine below_set ?_ (by first | omega | (simp; done) | (simp; omega)) _ | refine below_drawn ?_ | refine below_drawnN ?_ _ | refine below_new ?_ _)))) hb_w3
  have hz_w3 := hb_w3.size
  try simp only [World.size_setCell] at hz_w3
  try simp only [World.size_drew] at hz_w3
  try simp only [World.size_drewN] at hz_w3
  try simp only [World.size_alloc] at hz_w3
  try simp only [World.size_setCell] at hz_w3
  try simp only [World.size_drew] at hz_w3
  try simp only [World.size_drewN] at hz_w3
  try simp only [World.size_alloc] at hz_w3
  have hl0_w3 : w.heap.size < w3.heap.size := by omega
  have hl1_w3 : w.heap.size + 1 < w3.heap.size := by omega
  have a0_w3 : w3.cell? ⟨w.heap.size, 0, none⟩ = some (.int .i64 an) := below_cell_of hb_w3 (by first | (go_simp; done) | (refine below_cell_of (w := w2) ?_ (by first | assumption | (go_simp; done)); (repeat (first | assumption | exact Below.refl _ _ | refine below_set ?_ (by first | omega | (simp; done) | (simp; omega)) _ | refine below_drawn ?_ | refine below_drawnN ?_ _ | refine below_new ?_ _))))
  have a1_w3 : w3.cell? ⟨w.heap.size, 1, none⟩ = some (.int .i64 ad) := below_cell_of hb_w3 (by first | (go_simp; done) | (refine below_cell_of (w := w2) ?_ (by first | assumption | (go_simp; done)); (repeat (first | assumption | exact Below.refl _ _ | refine below_set ?_ (by first | omega | (simp; done) | (simp; omega)) _ | refine below_drawn ?_ | refine below_drawnN ?_ _ | refine below_new ?_ _))))
  have b0_w3 : w3.cell? ⟨w.heap.size + 1, 0, none⟩ = some (.int .i64 bn) := below_cell_of hb_w3 (by first | (go_simp; done) | (refine below_cell_of (w := w2) ?_ (by first | assumption | (go_simp; done)); (repeat (first | assumption | exact Below.refl _ _ | refine below_set ?_ (by first | omega | (simp; done) | (simp; omega)) _ | refine below_drawn ?_ | refine below_drawnN ?_ _ | refine below_new ?_ _))))
  have b1_w3 : w3.cell? ⟨w.heap.size + 1, 1, none⟩ = some (.int .i64 bd) := below_cell_of hb_w3 (by first | (go_simp; done) | (refine below_cell_of (w := w2) ?_ (by first | assumption | (go_simp; done)); (repeat (first | assumption | exact Below.refl _ _ | refine below_set ?_ (by first | omega | (simp; done) | (simp; omega)) _ | refine below_drawn ?_ | refine below_drawnN ?_ _ | refine below_new ?_ _))))
  go_wp2
  go_ret
  exact ⟨rfl, hB_w3⟩
set_option maxHeartbeats 4000000 in
set_option maxRecDepth 100000 in
theorem range_11 (an ad bn bd sx sy ux uy : Int) (w : World) (ha : Rt.valid an ad = true) (hb : Rt.valid bn bd = true) (hadd : Rt.add an ad bn bd = (sx, sy, 3)) (hmul : Rt.mul an ad bn bd = (ux, uy, 3)) (ho : Rt.outside (an * bd + bn * ad) (ad * bd) = true) (hp : Rt.outside (an * bn) (ad * bd) = true) : Calls Try.prog 9 #[.agg #[.int .i64 an, .int .i64 ad], .agg #[.int .i64 bn, .int .i64 bd]] w fun e w' => e = .returned (.bool true) ∧ Below w.heap.size w w' := by
  obtain ⟨a0, a1, a2, a3⟩ := Rt.valid_bd ha
  obtain ⟨b0, b1, b2, b3⟩ := Rt.valid_bd hb
  have hpos : 0 < ad * bd := Int.mul_pos (by omega) (by omega)
  obtain ⟨m0, n0⟩ := prod_in (a := an) (b := bd) (by omega) (by omega) (by omega) (by omega)
  obtain ⟨m1, n1⟩ := prod_in (a := bn) (b := ad) (by omega) (by omega) (by omega) (by omega)
  obtain ⟨m2, n2⟩ := prod_in (a := ad) (b := bd) (by omega) (by omega) (by omega) (by omega)
  obtain ⟨m3, n3⟩ := prod_in (a := an) (b := bn) (by omega) (by omega) (by omega) (by omega)
  have e0 : IntKind.i64.wrap (an * bd) = an * bd := IntWalk.i64_in _ ⟨by omega, by omega⟩
  have E0 := Lib.hid e0
  have e1 : IntKind.i64.wrap (bn * ad) = bn * ad := IntWalk.i64_in _ ⟨by omega, by omega⟩
  have E1 := Lib.hid e1
  have e2 : IntKind.i64.wrap (ad * bd) = ad * bd := IntWalk.i64_in _ ⟨by omega, by omega⟩
  have E2 := Lib.hid e2
  have e3 : IntKind.i64.wrap (an * bn) = an * bn := IntWalk.i64_in _ ⟨by omega, by omega⟩
  have E3 := Lib.hid e3
  have e4 : IntKind.i64.wrap (an * bd + bn * ad) = an * bd + bn * ad := IntWalk.i64_in _ ⟨by omega, by omega⟩
  have E4 := Lib.hid e4
  clear e0 e1 e2 e3 e4
  have HA := Lib.hid ha
  have HB := Lib.hid hb
  have HADD := Lib.hid hadd
  have HMUL := Lib.hid hmul
  have HO := Lib.hid ho
  have HP := Lib.hid hp
  clear ha hb hadd hmul ho hp
  go_enter Try.func9, Try.ntmps9
  go_wp2_with fail
  refine (head_ok _).mono ?_
  rintro e w1 ⟨rfl, hb_w1⟩
  have hB_w1 : Below w.heap.size w w1 := below_on (by (repeat (first | assumption | exact Below.refl _ _ | refine below_set ?_ (by first | omega | (simp; done) | (simp; omega)) _ | refine below_drawn ?_ | refine below_drawnN ?_ _ | refine below_new ?_ _))) hb_w1
  have hz_w1 := hb_w1.size
  try simp only [World.size_setCell] at hz_w1
  try simp only [World.size_drew] at hz_w1
  try simp only [World.size_drewN] at hz_w1
  try simp only [World.size_alloc] at hz_w1
  try simp only [World.size_setCell] at hz_w1
  try simp only [World.size_drew] at hz_w1
  try simp only [World.size_drewN] at hz_w1
  try simp only [World.size_alloc] at hz_w1
  have hl0_w1 : w.heap.size < w1.heap.size := by omega
  have hl1_w1 : w.heap.size + 1 < w1.heap.size := by omega
  have a0_w1 : w1.cell? ⟨w.heap.size, 0, none⟩ = some (.int .i64 an) := below_cell_of hb_w1 (by first | (go_simp; done) | (refine below_cell_of (w := w) ?_ (by first | assumption | (go_simp; done)); (repeat (first | assumption | exact Below.refl _ _ | refine below_set ?_ (by first | omega | (simp; done) | (simp; omega)) _ | refine below_drawn ?_ | refine below_drawnN ?_ _ | refine below_new ?_ _))))
  have a1_w1 : w1.cell? ⟨w.heap.size, 1, none⟩ = some (.int .i64 ad) := below_cell_of hb_w1 (by first | (go_simp; done) | (refine below_cell_of (w := w) ?_ (by first | assumption | (go_simp; done)); (repeat (first | assumption | exact Below.refl _ _ | refine below_set ?_ (by first | omega | (simp; done) | (simp; omega)) _ | refine below_drawn ?_ | refine below_drawnN ?_ _ | refine below_new ?_ _))))
  have b0_w1 : w1.cell? ⟨w.heap.size + 1, 0, none⟩ = some (.int .i64 bn) := below_cell_of hb_w1 (by first | (go_simp; done) | (refine below_cell_of (w := w) ?_ (by first | assumption | (go_simp; done)); (repeat (first | assumption | exact Below.refl _ _ | refine below_set ?_ (by first | omega | (simp; done) | (simp; omega)) _ | refine below_drawn ?_ | refine below_drawnN ?_ _ | refine below_new ?_ _))))
  have b1_w1 : w1.cell? ⟨w.heap.size + 1, 1, none⟩ = some (.int .i64 bd) := below_cell_of hb_w1 (by first | (go_simp; done) | (refine below_cell_of (w := w) ?_ (by first | assumption | (go_simp; done)); (repeat (first | assumption | exact Below.refl _ _ | refine below_set ?_ (by first | omega | (simp; done) | (simp; omega)) _ | refine below_drawn ?_ | refine below_drawnN ?_ _ | refine below_new ?_ _))))
  go_wp2_with fail
  refine (rvalid_any an ad _).mono ?_
  rw [HA.out]
  rintro e w2 ⟨rfl, hb_w2⟩
  have hB_w2 : Below w.heap.size w w2 := below_on (by first | ((repeat (first | assumption | exact Below.refl _ _ | refine below_set ?_ (by first | omega | (simp; done) | (simp; omega)) _ | refine below_drawn ?_ | refine below_drawnN ?_ _ | refine below_new ?_ _)); done) | (refine below_on hB_w1 ?_; (repeat (first | assumption | exact Below.refl _ _ | refine below_set ?_ (by first | omega | (simp; done) | (simp; omega)) _ | refine below_drawn ?_ | refine below_drawnN ?_ _ | refine below_new ?_ _)))) hb_w2
  have hz_w2 := hb_w2.size
  try simp only [World.size_setCell] at hz_w2
  try simp only [World.size_drew] at hz_w2
  try simp only [World.size_drewN] at hz_w2
  try simp only [World.size_alloc] at hz_w2
  try simp only [World.size_setCell] at hz_w2
  try simp only [World.size_drew] at hz_w2
  try simp only [World.size_drewN] at hz_w2
  try simp only [World.size_alloc] at hz_w2
  have hl0_w2 : w.heap.size < w2.heap.size := by omega
  have hl1_w2 : w.heap.size + 1 < w2.heap.size := by omega
  have a0_w2 : w2.cell? ⟨w.heap.size, 0, none⟩ = some (.int .i64 an) := below_cell_of hb_w2 (by first | (go_simp; done) | (refine below_cell_of (w := w1) ?_ (by first | assumption | (go_simp; done)); (repeat (first | assumption | exact Below.refl _ _ | refine below_set ?_ (by first | omega | (simp; done) | (simp; omega)) _ | refine below_drawn ?_ | refine below_drawnN ?_ _ | refine below_new ?_ _))))
  have a1_w2 : w2.cell? ⟨w.heap.size, 1, none⟩ = some (.int .i64 ad) := below_cell_of hb_w2 (by first | (go_simp; done) | (refine below_cell_of (w := w1) ?_ (by first | assumption | (go_simp; done)); (repeat (first | assumption | exact Below.refl _ _ | refine below_set ?_ (by first | omega | (simp; done) | (simp; omega)) _ | refine below_drawn ?_ | refine below_drawnN ?_ _ | refine below_new ?_ _))))
  have b0_w2 : w2.cell? ⟨w.heap.size + 1, 0, none⟩ = some (.int .i64 bn) := below_cell_of hb_w2 (by first | (go_simp; done) | (refine below_cell_of (w := w1) ?_ (by first | assumption | (go_simp; done)); (repeat (first | assumption | exact Below.refl _ _ | refine below_set ?_ (by first | omega | (simp; done) | (simp; omega)) _ | refine below_drawn ?_ | refine below_drawnN ?_ _ | refine below_new ?_ _))))
  have b1_w2 : w2.cell? ⟨w.heap.size + 1, 1, none⟩ = some (.int .i64 bd) := below_cell_of hb_w2 (by first | (go_simp; done) | (refine below_cell_of (w := w1) ?_ (by first | assumption | (go_simp; done)); (repeat (first | assumption | exact Below.refl _ _ | refine below_set ?_ (by first | omega | (simp; done) | (simp; omega)) _ | refine below_drawn ?_ | refine below_drawnN ?_ _ | refine below_new ?_ _))))
  go_wp2_with fail
  refine (rvalid_any bn bd _).mono ?_
  rw [HB.out]
  rintro e w3 ⟨rfl, hb_w3⟩
  have hB_w3 : Below w.heap.size w w3 := below_on (by first | ((repeat (first | assumption | exact Below.refl _ _ | refine below_set ?_ (by first | omega | (simp; done) | (simp; omega)) _ | refine below_drawn ?_ | refine below_drawnN ?_ _ | refine below_new ?_ _)); done) | (refine below_on hB_w2 ?_; (repeat (first | assumption | exact Below.refl _ _ | refine below_set ?_ (by first | omega | (simp; done) | (simp; omega)) _ | refine below_drawn ?_ | refine below_drawnN ?_ _ | refine below_new ?_ _)))) hb_w3
  have hz_w3 := hb_w3.size
  try simp only [World.size_setCell] at hz_w3
  try simp only [World.size_drew] at hz_w3
  try simp only [World.size_drewN] at hz_w3
  try simp only [World.size_alloc] at hz_w3
  try simp only [World.size_setCell] at hz_w3
  try simp only [World.size_drew] at hz_w3
  try simp only [World.size_drewN] at hz_w3
  try simp only [World.size_alloc] at hz_w3
  have hl0_w3 : w.heap.size < w3.heap.size := by omega
  have hl1_w3 : w.heap.size + 1 < w3.heap.size := by omega
  have a0_w3 : w3.cell? ⟨w.heap.size, 0, none⟩ = some (.int .i64 an) := below_cell_of hb_w3 (by first | (go_simp; done) | (refine below_cell_of (w := w2) ?_ (by first | assumption | (go_simp; done)); (repeat (first | assumption | exact Below.refl _ _ | refine below_set ?_ (by first | omega | (simp; done) | (simp; omega)) _ | refine below_drawn ?_ | refine below_drawnN ?_ _ | refine below_new ?_ _))))
  have a1_w3 : w3.cell? ⟨w.heap.size, 1, none⟩ = some (.int .i64 ad) := below_cell_of hb_w3 (by first | (go_simp; done) | (refine below_cell_of (w := w2) ?_ (by first | assumption | (go_simp; done)); (repeat (first | assumption | exact Below.refl _ _ | refine below_set ?_ (by first | omega | (simp; done) | (simp; omega)) _ | refine below_drawn ?_ | refine below_drawnN ?_ _ | refine below_new ?_ _))))
  have b0_w3 : w3.cell? ⟨w.heap.size + 1, 0, none⟩ = some (.int .i64 bn) := below_cell_of hb_w3 (by first | (go_simp; done) | (refine below_cell_of (w := w2) ?_ (by first | assumption | (go_simp; done)); (repeat (first | assumption | exact Below.refl _ _ | refine below_set ?_ (by first | omega | (simp; done) | (simp; omega)) _ | refine below_drawn ?_ | refine below_drawnN ?_ _ | refine below_new ?_ _))))
  have b1_w3 : w3.cell? ⟨w.heap.size + 1, 1, none⟩ = some (.int .i64 bd) := below_cell_of hb_w3 (by first | (go_simp; done) | (refine below_cell_of (w := w2) ?_ (by first | assumption | (go_simp; done)); (repeat (first | assumption | exact Below.refl _ _ | refine below_set ?_ (by first | omega | (simp; done) | (simp; omega)) _ | refine below_drawn ?_ | refine below_drawnN ?_ _ | refine below_new ?_ _))))
  go_wp2_with fail
  refine (add_any an ad bn bd _ (by omega) (by omega)).mono ?_
  rw [HADD.out]
  rintro e w4 ⟨rfl, hb_w4⟩
  have hB_w4 : Below w.heap.size w w4 := below_on (by first | ((repeat (first | assumption | exact Below.refl _ _ | refine below_set ?_ (by first | omega | (simp; done) | (simp; omega)) _ | refine below_drawn ?_ | refine below_drawnN ?_ _ | refine below_new ?_ _)); done) | (refine below_on hB_w3 ?_; (repeat (first | assumption | exact Below.refl _ _ | refine below_set ?_ (by first | omega | (simp; done) | (simp; omega)) _ | refine below_drawn ?_ | refine below_drawnN ?_ _ | refine below_new ?_ _)))) hb_w4
  have hz_w4 := hb_w4.size
  try simp only [World.size_setCell] at hz_w4
  try simp only [World.size_drew] at hz_w4
  try simp only [World.size_drewN] at hz_w4
  try simp only [World.size_alloc] at hz_w4
  try simp only [World.size_setCell] at hz_w4
  try simp only [World.size_drew] at hz_w4
  try simp only [World.size_drewN] at hz_w4
  try simp only [World.size_alloc] at hz_w4
  have hl0_w4 : w.heap.size < w4.heap.size := by omega
  have hl1_w4 : w.heap.size + 1 < w4.heap.size := by omega
  have a0_w4 : w4.cell? ⟨w.heap.size, 0, none⟩ = some (.int .i64 an) := below_cell_of hb_w4 (by first | (go_simp; done) | (refine below_cell_of (w := w3) ?_ (by first | assumption | (go_simp; done)); (repeat (first | assumption | exact Below.refl _ _ | refine below_set ?_ (by first | omega | (simp; done) | (simp; omega)) _ | refine below_drawn ?_ | refine below_drawnN ?_ _ | refine below_new ?_ _))))
  have a1_w4 : w4.cell? ⟨w.heap.size, 1, none⟩ = some (.int .i64 ad) := below_cell_of hb_w4 (by first | (go_simp; done) | (refine below_cell_of (w := w3) ?_ (by first | assumption | (go_simp; done)); (repeat (first | assumption | exact Below.refl _ _ | refine below_set ?_ (by first | omega | (simp; done) | (simp; omega)) _ | refine below_drawn ?_ | refine below_drawnN ?_ _ | refine below_new ?_ _))))
  have b0_w4 : w4.cell? ⟨w.heap.size + 1, 0, none⟩ = some (.int .i64 bn) := below_cell_of hb_w4 (by first | (go_simp; done) | (refine below_cell_of (w := w3) ?_ (by first | assumption | (go_simp; done)); (repeat (first | assumption | exact Below.refl _ _ | refine below_set ?_ (by first | omega | (simp; done) | (simp; omega)) _ | refine below_drawn ?_ | refine below_drawnN ?_ _ | refine below_new ?_ _))))
  have b1_w4 : w4.cell? ⟨w.heap.size + 1, 1, none⟩ = some (.int .i64 bd) := below_cell_of hb_w4 (by first | (go_simp; done) | (refine below_cell_of (w := w3) ?_ (by first | assumption | (go_simp; done)); (repeat (first | assumption | exact Below.refl _ _ | refine below_set ?_ (by first | omega | (simp; done) | (simp; omega)) _ | refine below_drawn ?_ | refine below_drawnN ?_ _ | refine below_new ?_ _))))
  go_wp2_with fail
  refine (mul_any an ad bn bd _ (by omega) (by omega)).mono ?_
  rw [HMUL.out]
  rintro e w5 ⟨rfl, hb_w5⟩
  have hB_w5 : Below w.heap.size w w5 := below_on (by first | ((repeat (first | assumption | exact Below.refl _ _ | refine below_set ?_ (by first | omega | (simp; done) | (simp; omega)) _ | refine below_drawn ?_ | refine below_drawnN ?_ _ | refine below_new ?_ _)); done) | (refine below_on hB_w4 ?_; (repeat (first | assumption | exact Below.refl _ _ | refine below_set ?_ (by first | omega | (simp; done) | (simp; omega)) _ | refine below_drawn ?_ | refine below_drawnN ?_ _ | refine below_new ?_ _)))) hb_w5
  have hz_w5 := hb_w5.size
  try simp only [World.size_setCell] at hz_w5
  try simp only [World.size_drew] at hz_w5
  try simp only [World.size_drewN] at hz_w5
  try simp only [World.size_alloc] at hz_w5
  try simp only [World.size_setCell] at hz_w5
  try simp only [World.size_drew] at hz_w5
  try simp only [World.size_drewN] at hz_w5
  try simp only [World.size_alloc] at hz_w5
  have hl0_w5 : w.heap.size < w5.heap.size := by omega
  have hl1_w5 : w.heap.size + 1 < w5.heap.size := by omega
  have a0_w5 : w5.cell? ⟨w.heap.size, 0, none⟩ = some (.int .i64 an) := below_cell_of hb_w5 (by first | (go_simp; done) | (refine below_cell_of (w := w4) ?_ (by first | assumption | (go_simp; done)); (repeat (first | assumption | exact Below.refl _ _ | refine below_set ?_ (by first | omega | (simp; done) | (simp; omega)) _ | refine below_drawn ?_ | refine below_drawnN ?_ _ | refine below_new ?_ _))))
  have a1_w5 : w5.cell? ⟨w.heap.size, 1, none⟩ = some (.int .i64 ad) := below_cell_of hb_w5 (by first | (go_simp; done) | (refine below_cell_of (w := w4) ?_ (by first | assumption | (go_simp; done)); (repeat (first | assumption | exact Below.refl _ _ | refine below_set ?_ (by first | omega | (simp; done) | (simp; omega)) _ | refine below_drawn ?_ | refine below_drawnN ?_ _ | refine below_new ?_ _))))
  have b0_w5 : w5.cell? ⟨w.heap.size + 1, 0, none⟩ = some (.int .i64 bn) := below_cell_of hb_w5 (by first | (go_simp; done) | (refine below_cell_of (w := w4) ?_ (by first | assumption | (go_simp; done)); (repeat (first | assumption | exact Below.refl _ _ | refine below_set ?_ (by first | omega | (simp; done) | (simp; omega)) _ | refine below_drawn ?_ | refine below_drawnN ?_ _ | refine below_new ?_ _))))
  have b1_w5 : w5.cell? ⟨w.heap.size + 1, 1, none⟩ = some (.int .i64 bd) := below_cell_of hb_w5 (by first | (go_simp; done) | (refine below_cell_of (w := w4) ?_ (by first | assumption | (go_simp; done)); (repeat (first | assumption | exact Below.refl _ _ | refine below_set ?_ (by first | omega | (simp; done) | (simp; omega)) _ | refine below_drawn ?_ | refine below_drawnN ?_ _ | refine below_new ?_ _))))
  go_wp2
  refine wp_region_held_drew (S := (fun W => W.cell? ⟨w.heap.size, 0, none⟩ = some (.int .i64 an) ∧ W.cell? ⟨w.heap.size, 1, none⟩ = some (.int .i64 ad) ∧ W.cell? ⟨w.heap.size + 1, 0, none⟩ = some (.int .i64 bn) ∧ W.cell? ⟨w.heap.size + 1, 1, none⟩ = some (.int .i64 bd) ∧ Below w.heap.size w W)) (by kernel_rfl) ?_ (fun hHeld => ?_)
  · exact ⟨by first | assumption | (go_simp; done), by first | assumption | (go_simp; done), by first | assumption | (go_simp; done), by first | assumption | (go_simp; done), by (repeat (first | assumption | exact Below.refl _ _ | refine below_set ?_ (by first | omega | (simp; done) | (simp; omega)) _ | refine below_drawn ?_ | refine below_drawnN ?_ _ | refine below_new ?_ _))⟩
  refine wpAnyH_take (i := 0) (v := ?_) rfl (by kernel_rfl) (by kernel_rfl) (by kernel_rfl) (fun _ _ _ h => h) (Or.inl ⟨by rfl, ?_⟩) hHeld ?_
  rotate_left
  · intro wS hSw; obtain ⟨hS0, hS1, hS2, hS3, hS4⟩ := hSw; go_simp; (try simp only [E0.out]); (try simp only [E1.out]); (try simp only [E2.out]); (try simp only [E3.out]); (try simp only [E4.out]); try with_reducible rfl
  try go_simp
  refine wpAnyH_take (i := 1) (v := ?_) rfl (by kernel_rfl) (by kernel_rfl) (by kernel_rfl) (fun _ _ _ h => h) (Or.inl ⟨by rfl, ?_⟩) hHeld ?_
  rotate_left
  · intro wS hSw; obtain ⟨hS0, hS1, hS2, hS3, hS4⟩ := hSw; go_simp; (try simp only [E0.out]); (try simp only [E1.out]); (try simp only [E2.out]); (try simp only [E3.out]); (try simp only [E4.out]); try with_reducible rfl
  try go_simp
  refine wpAnyH_take (i := 2) (v := ?_) rfl (by kernel_rfl) (by kernel_rfl) (by kernel_rfl) (fun _ _ _ h => h) (Or.inl ⟨by rfl, ?_⟩) hHeld ?_
  rotate_left
  · intro wS hSw; obtain ⟨hS0, hS1, hS2, hS3, hS4⟩ := hSw; go_simp; (try simp only [E0.out]); (try simp only [E1.out]); (try simp only [E2.out]); (try simp only [E3.out]); (try simp only [E4.out]); try with_reducible rfl
  try go_simp
  refine wpAnyH_take (i := 3) (v := ?_) rfl (by kernel_rfl) (by kernel_rfl) (by kernel_rfl) (fun _ _ _ h => h) (Or.inl ⟨by rfl, ?_⟩) hHeld ?_
  rotate_left
  · intro wS hSw; obtain ⟨hS0, hS1, hS2, hS3, hS4⟩ := hSw; go_simp; (try simp only [E0.out]); (try simp only [E1.out]); (try simp only [E2.out]); (try simp only [E3.out]); (try simp only [E4.out]); try with_reducible rfl
  try go_simp
  refine wpAnyH_take (i := 4) (v := ?_) rfl (by kernel_rfl) (by kernel_rfl) (by kernel_rfl) (fun _ _ _ h => h) (Or.inl ⟨by rfl, ?_⟩) hHeld ?_
  rotate_left
  · intro wS hSw; obtain ⟨hS0, hS1, hS2, hS3, hS4⟩ := hSw; go_simp; (try simp only [E0.out]); (try simp only [E1.out]); (try simp only [E2.out]); (try simp only [E3.out]); (try simp only [E4.out]); try with_reducible rfl
  try go_simp
  refine wpAnyH_take (i := 5) (v := ?_) rfl (by kernel_rfl) (by kernel_rfl) (by kernel_rfl) (fun _ _ _ h => h) (Or.inl ⟨by rfl, ?_⟩) hHeld ?_
  rotate_left
  · intro wS hSw; obtain ⟨hS0, hS1, hS2, hS3, hS4⟩ := hSw; go_simp; (try simp only [E0.out]); (try simp only [E1.out]); (try simp only [E2.out]); (try simp only [E3.out]); (try simp only [E4.out]); try with_reducible rfl
  try go_simp
  refine wpAnyH_take (i := 6) (v := ?_) rfl (by kernel_rfl) (by kernel_rfl) (by kernel_rfl) (fun _ _ _ h => h) (Or.inl ⟨by rfl, ?_⟩) hHeld ?_
  rotate_left
  · intro wS hSw; obtain ⟨hS0, hS1, hS2, hS3, hS4⟩ := hSw; go_simp; (try simp only [E0.out]); (try simp only [E1.out]); (try simp only [E2.out]); (try simp only [E3.out]); (try simp only [E4.out]); try with_reducible rfl
  try go_simp
  refine wpAnyH_take (i := 7) (v := ?_) rfl (by kernel_rfl) (by kernel_rfl) (by kernel_rfl) (fun _ _ _ h => h) (Or.inl ⟨by rfl, ?_⟩) hHeld ?_
  rotate_left
  · intro wS hSw; obtain ⟨hS0, hS1, hS2, hS3, hS4⟩ := hSw; go_simp; (try simp only [E0.out]); (try simp only [E1.out]); (try simp only [E2.out]); (try simp only [E3.out]); (try simp only [E4.out]); try with_reducible rfl
  try go_simp
  refine wpAnyH_take (i := 8) (v := ?_) rfl (by kernel_rfl) (by kernel_rfl) (by kernel_rfl) (fun _ _ _ h => h) (Or.inl ⟨by rfl, ?_⟩) hHeld ?_
  rotate_left
  · intro wS hSw; obtain ⟨hS0, hS1, hS2, hS3, hS4⟩ := hSw; go_simp; (try simp only [E0.out]); (try simp only [E1.out]); (try simp only [E2.out]); (try simp only [E3.out]); (try simp only [E4.out]); try with_reducible rfl
  try go_simp
  refine wpAnyH_take (i := 9) (v := ?_) rfl (by kernel_rfl) (by kernel_rfl) (by kernel_rfl) (fun _ _ _ h => h) (Or.inl ⟨by rfl, ?_⟩) hHeld ?_
  rotate_left
  · intro wS hSw; obtain ⟨hS0, hS1, hS2, hS3, hS4⟩ := hSw; go_simp; (try simp only [E0.out]); (try simp only [E1.out]); (try simp only [E2.out]); (try simp only [E3.out]); (try simp only [E4.out]); try with_reducible rfl
  try go_simp
  refine wpAnyH_take (i := 10) (v := ?_) rfl (by kernel_rfl) (by kernel_rfl) (by kernel_rfl) (fun _ _ _ h => h) (Or.inl ⟨by rfl, ?_⟩) hHeld ?_
  rotate_left
  · intro wS hSw; obtain ⟨hS0, hS1, hS2, hS3, hS4⟩ := hSw; go_simp; (try simp only [E0.out]); (try simp only [E1.out]); (try simp only [E2.out]); (try simp only [E3.out]); (try simp only [E4.out]); try with_reducible rfl
  try go_simp
  refine wpAnyH_take (i := 11) (v := ?_) rfl (by kernel_rfl) (by kernel_rfl) (by kernel_rfl) (fun _ _ _ h => h) (Or.inl ⟨by rfl, ?_⟩) hHeld ?_
  rotate_left
  · intro wS hSw; obtain ⟨hS0, hS1, hS2, hS3, hS4⟩ := hSw; go_simp; (try simp only [E0.out]); (try simp only [E1.out]); (try simp only [E2.out]); (try simp only [E3.out]); (try simp only [E4.out]); try with_reducible rfl
  try go_simp
  refine wpAnyH_take (i := 12) (v := ?_) rfl (by kernel_rfl) (by kernel_rfl) (by kernel_rfl) (fun _ _ _ h => h) (Or.inl ⟨by rfl, ?_⟩) hHeld ?_
  rotate_left
  · intro wS hSw; obtain ⟨hS0, hS1, hS2, hS3, hS4⟩ := hSw; go_simp; (try simp only [E0.out]); (try simp only [E1.out]); (try simp only [E2.out]); (try simp only [E3.out]); (try simp only [E4.out]); try with_reducible rfl
  try go_simp
  refine wpAnyH_take (i := 13) (v := ?_) rfl (by kernel_rfl) (by kernel_rfl) (by kernel_rfl) (fun _ _ _ h => h) (Or.inl ⟨by rfl, ?_⟩) hHeld ?_
  rotate_left
  · intro wS hSw; obtain ⟨hS0, hS1, hS2, hS3, hS4⟩ := hSw; go_simp; (try simp only [E0.out]); (try simp only [E1.out]); (try simp only [E2.out]); (try simp only [E3.out]); (try simp only [E4.out]); try with_reducible rfl
  try go_simp
  refine wpAnyH_take (i := 14) (v := ?_) rfl (by kernel_rfl) (by kernel_rfl) (by kernel_rfl) (fun _ _ _ h => h) (Or.inl ⟨by rfl, ?_⟩) hHeld ?_
  rotate_left
  · intro wS hSw; obtain ⟨hS0, hS1, hS2, hS3, hS4⟩ := hSw; go_simp; (try simp only [E0.out]); (try simp only [E1.out]); (try simp only [E2.out]); (try simp only [E3.out]); (try simp only [E4.out]); try with_reducible rfl
  try go_simp
  refine wpAnyH_take (i := 15) (v := ?_) rfl (by kernel_rfl) (by kernel_rfl) (by kernel_rfl) (fun _ _ _ h => h) (Or.inl ⟨by rfl, ?_⟩) hHeld ?_
  rotate_left
  · intro wS hSw; obtain ⟨hS0, hS1, hS2, hS3, hS4⟩ := hSw; go_simp; (try simp only [E0.out]); (try simp only [E1.out]); (try simp only [E2.out]); (try simp only [E3.out]); (try simp only [E4.out]); try with_reducible rfl
  try go_simp
  refine wpAnyH_take (i := 17) (v := ?_) rfl (by kernel_rfl) (by kernel_rfl) (by kernel_rfl) (fun _ _ _ h => h) (Or.inl ⟨by rfl, ?_⟩) hHeld ?_
  rotate_left
  · intro wS hSw; obtain ⟨hS0, hS1, hS2, hS3, hS4⟩ := hSw; go_simp; (try simp only [E0.out]); (try simp only [E1.out]); (try simp only [E2.out]); (try simp only [E3.out]); (try simp only [E4.out]); try with_reducible rfl
  try go_simp
  refine wpAnyH_take (i := 18) (v := ?_) rfl (by kernel_rfl) (by kernel_rfl) (by kernel_rfl) (fun _ _ _ h => h) (Or.inl ⟨by rfl, ?_⟩) hHeld ?_
  rotate_left
  · intro wS hSw; obtain ⟨hS0, hS1, hS2, hS3, hS4⟩ := hSw; go_simp; (try simp only [E0.out]); (try simp only [E1.out]); (try simp only [E2.out]); (try simp only [E3.out]); (try simp only [E4.out]); try with_reducible rfl
  try go_simp
  refine wpAnyH_take (i := 19) (v := ?_) rfl (by kernel_rfl) (by kernel_rfl) (by kernel_rfl) (fun _ _ _ h => h) (Or.inl ⟨by rfl, ?_⟩) hHeld ?_
  rotate_left
  · intro wS hSw; obtain ⟨hS0, hS1, hS2, hS3, hS4⟩ := hSw; go_simp; (try simp only [E0.out]); (try simp only [E1.out]); (try simp only [E2.out]); (try simp only [E3.out]); (try simp only [E4.out]); try with_reducible rfl
  try go_simp
  refine wpAnyH_take (i := 20) (v := ?_) rfl (by kernel_rfl) (by kernel_rfl) (by kernel_rfl) (fun _ _ _ h => h) (Or.inl ⟨by rfl, ?_⟩) hHeld ?_
  rotate_left
  · intro wS hSw; obtain ⟨hS0, hS1, hS2, hS3, hS4⟩ := hSw; go_simp; (try simp only [E0.out]); (try simp only [E1.out]); (try simp only [E2.out]); (try simp only [E3.out]); (try simp only [E4.out]); try with_reducible rfl
  try go_simp
  refine wpAnyH_take (i := 21) (v := ?_) rfl (by kernel_rfl) (by kernel_rfl) (by kernel_rfl) (fun _ _ _ h => h) (Or.inl ⟨by rfl, ?_⟩) hHeld ?_
  rotate_left
  · intro wS hSw; obtain ⟨hS0, hS1, hS2, hS3, hS4⟩ := hSw; go_simp; (try simp only [E0.out]); (try simp only [E1.out]); (try simp only [E2.out]); (try simp only [E3.out]); (try simp only [E4.out]); try with_reducible rfl
  try go_simp
  refine wpAnyH_take (i := 22) (v := ?_) rfl (by kernel_rfl) (by kernel_rfl) (by kernel_rfl) (fun _ _ _ h => h) (Or.inl ⟨by rfl, ?_⟩) hHeld ?_
  rotate_left
  · intro wS hSw; obtain ⟨hS0, hS1, hS2, hS3, hS4⟩ := hSw; go_simp; (try simp only [E0.out]); (try simp only [E1.out]); (try simp only [E2.out]); (try simp only [E3.out]); (try simp only [E4.out]); try with_reducible rfl
  try go_simp
  refine wpAnyH_take (i := 23) (v := ?_) rfl (by kernel_rfl) (by kernel_rfl) (by kernel_rfl) (fun _ _ _ h => h) (Or.inl ⟨by rfl, ?_⟩) hHeld ?_
  rotate_left
  · intro wS hSw; obtain ⟨hS0, hS1, hS2, hS3, hS4⟩ := hSw; go_simp; (try simp only [E0.out]); (try simp only [E1.out]); (try simp only [E2.out]); (try simp only [E3.out]); (try simp only [E4.out]); try with_reducible rfl
  try go_simp
  refine wpAnyH_take (i := 24) (v := ?_) rfl (by kernel_rfl) (by kernel_rfl) (by kernel_rfl) (fun _ _ _ h => h) (Or.inl ⟨by rfl, ?_⟩) hHeld ?_
  rotate_left
  · intro wS hSw; obtain ⟨hS0, hS1, hS2, hS3, hS4⟩ := hSw; go_simp; (try simp only [E0.out]); (try simp only [E1.out]); (try simp only [E2.out]); (try simp only [E3.out]); (try simp only [E4.out]); try with_reducible rfl
  try go_simp
  refine wpAnyH_take (i := 25) (v := ?_) rfl (by kernel_rfl) (by kernel_rfl) (by kernel_rfl) (fun _ _ _ h => h) (Or.inl ⟨by rfl, ?_⟩) hHeld ?_
  rotate_left
  · intro wS hSw; obtain ⟨hS0, hS1, hS2, hS3, hS4⟩ := hSw; go_simp; (try simp only [E0.out]); (try simp only [E1.out]); (try simp only [E2.out]); (try simp only [E3.out]); (try simp only [E4.out]); try with_reducible rfl
  try go_simp
  refine wpAnyH_take (i := 26) (v := ?_) rfl (by kernel_rfl) (by kernel_rfl) (by kernel_rfl) (fun _ _ _ h => h) (Or.inl ⟨by rfl, ?_⟩) hHeld ?_
  rotate_left
  · intro wS hSw; obtain ⟨hS0, hS1, hS2, hS3, hS4⟩ := hSw; go_simp; (try simp only [E0.out]); (try simp only [E1.out]); (try simp only [E2.out]); (try simp only [E3.out]); (try simp only [E4.out]); try with_reducible rfl
  try go_simp
  refine wpAnyH_ready (rs := [16]) (by kernel_rfl) (by simp) ?_
  refine AllReadyH.cons rfl (fun K hK => ?_) AllReadyH.nil
  go_simp
  refine (outside_any (an * bd + bn * ad) (ad * bd) _ (by omega) (by omega) hpos (by omega)).mono ?_
  rw [HO.out]
  rintro e x1 ⟨rfl, rfl⟩
  refine hK.out _ _ ?_ (fun hHeld => ?_)
  · exact ⟨by first | assumption | (go_simp; done), by first | assumption | (go_simp; done), by first | assumption | (go_simp; done), by first | assumption | (go_simp; done), by (repeat (first | assumption | exact Below.refl _ _ | refine below_set ?_ (by first | omega | (simp; done) | (simp; omega)) _ | refine below_drawn ?_ | refine below_drawnN ?_ _ | refine below_new ?_ _))⟩
  clear hK K
  try go_simp
  refine wpAnyH_ready (rs := [27]) (by kernel_rfl) (by simp) ?_
  refine AllReadyH.cons rfl (fun K hK => ?_) AllReadyH.nil
  go_simp
  refine (outside_any (an * bn) (ad * bd) _ (by omega) (by omega) hpos (by omega)).mono ?_
  rw [HP.out]
  rintro e x1 ⟨rfl, rfl⟩
  refine hK.out _ _ ?_ (fun hHeld => ?_)
  · exact ⟨by first | assumption | (go_simp; done), by first | assumption | (go_simp; done), by first | assumption | (go_simp; done), by first | assumption | (go_simp; done), by (repeat (first | assumption | exact Below.refl _ _ | refine below_set ?_ (by first | omega | (simp; done) | (simp; omega)) _ | refine below_drawn ?_ | refine below_drawnN ?_ _ | refine below_new ?_ _))⟩
  clear hK K
  try go_simp
  refine wpAnyH_take (i := 28) (v := ?_) rfl (by kernel_rfl) (by kernel_rfl) (by kernel_rfl) (fun _ _ _ h => h) (Or.inl ⟨by rfl, ?_⟩) hHeld ?_
  rotate_left
  · intro wS hSw; obtain ⟨hS0, hS1, hS2, hS3, hS4⟩ := hSw; go_simp; (try simp only [E0.out]); (try simp only [E1.out]); (try simp only [E2.out]); (try simp only [E3.out]); (try simp only [E4.out]); try with_reducible rfl
  try go_simp
  refine wpAnyH_take (i := 29) (v := ?_) rfl (by kernel_rfl) (by kernel_rfl) (by kernel_rfl) (fun _ _ _ h => h) (Or.inl ⟨by rfl, ?_⟩) hHeld ?_
  rotate_left
  · intro wS hSw; obtain ⟨hS0, hS1, hS2, hS3, hS4⟩ := hSw; go_simp; (try simp only [E0.out]); (try simp only [E1.out]); (try simp only [E2.out]); (try simp only [E3.out]); (try simp only [E4.out]); try with_reducible rfl
  try go_simp
  refine wpAnyH_done (by kernel_rfl) ?_ _
  obtain ⟨_, _, _, _, hBW⟩ := hHeld
  go_wp2
  go_ret
  exact ⟨rfl, hBW⟩
set_option maxHeartbeats 4000000 in
set_option maxRecDepth 100000 in
theorem range_10 (an ad bn bd sx sy ux uy : Int) (w : World) (ha : Rt.valid an ad = true) (hb : Rt.valid bn bd = true) (hadd : Rt.add an ad bn bd = (sx, sy, 3)) (hmul : Rt.mul an ad bn bd = (ux, uy, 0)) (ho : Rt.outside (an * bd + bn * ad) (ad * bd) = true) (hp : Rt.outside (an * bn) (ad * bd) = false) : Calls Try.prog 9 #[.agg #[.int .i64 an, .int .i64 ad], .agg #[.int .i64 bn, .int .i64 bd]] w fun e w' => e = .returned (.bool true) ∧ Below w.heap.size w w' := by
  obtain ⟨a0, a1, a2, a3⟩ := Rt.valid_bd ha
  obtain ⟨b0, b1, b2, b3⟩ := Rt.valid_bd hb
  have hpos : 0 < ad * bd := Int.mul_pos (by omega) (by omega)
  obtain ⟨m0, n0⟩ := prod_in (a := an) (b := bd) (by omega) (by omega) (by omega) (by omega)
  obtain ⟨m1, n1⟩ := prod_in (a := bn) (b := ad) (by omega) (by omega) (by omega) (by omega)
  obtain ⟨m2, n2⟩ := prod_in (a := ad) (b := bd) (by omega) (by omega) (by omega) (by omega)
  obtain ⟨m3, n3⟩ := prod_in (a := an) (b := bn) (by omega) (by omega) (by omega) (by omega)
  have e0 : IntKind.i64.wrap (an * bd) = an * bd := IntWalk.i64_in _ ⟨by omega, by omega⟩
  have E0 := Lib.hid e0
  have e1 : IntKind.i64.wrap (bn * ad) = bn * ad := IntWalk.i64_in _ ⟨by omega, by omega⟩
  have E1 := Lib.hid e1
  have e2 : IntKind.i64.wrap (ad * bd) = ad * bd := IntWalk.i64_in _ ⟨by omega, by omega⟩
  have E2 := Lib.hid e2
  have e3 : IntKind.i64.wrap (an * bn) = an * bn := IntWalk.i64_in _ ⟨by omega, by omega⟩
  have E3 := Lib.hid e3
  have e4 : IntKind.i64.wrap (an * bd + bn * ad) = an * bd + bn * ad := IntWalk.i64_in _ ⟨by omega, by omega⟩
  have E4 := Lib.hid e4
  clear e0 e1 e2 e3 e4
  have HA := Lib.hid ha
  have HB := Lib.hid hb
  have HADD := Lib.hid hadd
  have HMUL := Lib.hid hmul
  have HO := Lib.hid ho
  have HP := Lib.hid hp
  clear ha hb hadd hmul ho hp
  go_enter Try.func9, Try.ntmps9
  go_wp2_with fail
  refine (head_ok _).mono ?_
  rintro e w1 ⟨rfl, hb_w1⟩
  have hB_w1 : Below w.heap.size w w1 := below_on (by (repeat (first | assumption | exact Below.refl _ _ | refine below_set ?_ (by first | omega | (simp; done) | (simp; omega)) _ | refine below_drawn ?_ | refine below_drawnN ?_ _ | refine below_new ?_ _))) hb_w1
  have hz_w1 := hb_w1.size
  try simp only [World.size_setCell] at hz_w1
  try simp only [World.size_drew] at hz_w1
  try simp only [World.size_drewN] at hz_w1
  try simp only [World.size_alloc] at hz_w1
  try simp only [World.size_setCell] at hz_w1
  try simp only [World.size_drew] at hz_w1
  try simp only [World.size_drewN] at hz_w1
  try simp only [World.size_alloc] at hz_w1
  have hl0_w1 : w.heap.size < w1.heap.size := by omega
  have hl1_w1 : w.heap.size + 1 < w1.heap.size := by omega
  have a0_w1 : w1.cell? ⟨w.heap.size, 0, none⟩ = some (.int .i64 an) := below_cell_of hb_w1 (by first | (go_simp; done) | (refine below_cell_of (w := w) ?_ (by first | assumption | (go_simp; done)); (repeat (first | assumption | exact Below.refl _ _ | refine below_set ?_ (by first | omega | (simp; done) | (simp; omega)) _ | refine below_drawn ?_ | refine below_drawnN ?_ _ | refine below_new ?_ _))))
  have a1_w1 : w1.cell? ⟨w.heap.size, 1, none⟩ = some (.int .i64 ad) := below_cell_of hb_w1 (by first | (go_simp; done) | (refine below_cell_of (w := w) ?_ (by first | assumption | (go_simp; done)); (repeat (first | assumption | exact Below.refl _ _ | refine below_set ?_ (by first | omega | (simp; done) | (simp; omega)) _ | refine below_drawn ?_ | refine below_drawnN ?_ _ | refine below_new ?_ _))))
  have b0_w1 : w1.cell? ⟨w.heap.size + 1, 0, none⟩ = some (.int .i64 bn) := below_cell_of hb_w1 (by first | (go_simp; done) | (refine below_cell_of (w := w) ?_ (by first | assumption | (go_simp; done)); (repeat (first | assumption | exact Below.refl _ _ | refine below_set ?_ (by first | omega | (simp; done) | (simp; omega)) _ | refine below_drawn ?_ | refine below_drawnN ?_ _ | refine below_new ?_ _))))
  have b1_w1 : w1.cell? ⟨w.heap.size + 1, 1, none⟩ = some (.int .i64 bd) := below_cell_of hb_w1 (by first | (go_simp; done) | (refine below_cell_of (w := w) ?_ (by first | assumption | (go_simp; done)); (repeat (first | assumption | exact Below.refl _ _ | refine below_set ?_ (by first | omega | (simp; done) | (simp; omega)) _ | refine below_drawn ?_ | refine below_drawnN ?_ _ | refine below_new ?_ _))))
  go_wp2_with fail
  refine (rvalid_any an ad _).mono ?_
  rw [HA.out]
  rintro e w2 ⟨rfl, hb_w2⟩
  have hB_w2 : Below w.heap.size w w2 := below_on (by first | ((repeat (first | assumption | exact Below.refl _ _ | refine below_set ?_ (by first | omega | (simp; done) | (simp; omega)) _ | refine below_drawn ?_ | refine below_drawnN ?_ _ | refine below_new ?_ _)); done) | (refine below_on hB_w1 ?_; (repeat (first | assumption | exact Below.refl _ _ | refine below_set ?_ (by first | omega | (simp; done) | (simp; omega)) _ | refine below_drawn ?_ | refine below_drawnN ?_ _ | refine below_new ?_ _)))) hb_w2
  have hz_w2 := hb_w2.size
  try simp only [World.size_setCell] at hz_w2
  try simp only [World.size_drew] at hz_w2
  try simp only [World.size_drewN] at hz_w2
  try simp only [World.size_alloc] at hz_w2
  try simp only [World.size_setCell] at hz_w2
  try simp only [World.size_drew] at hz_w2
  try simp only [World.size_drewN] at hz_w2
  try simp only [World.size_alloc] at hz_w2
  have hl0_w2 : w.heap.size < w2.heap.size := by omega
  have hl1_w2 : w.heap.size + 1 < w2.heap.size := by omega
  have a0_w2 : w2.cell? ⟨w.heap.size, 0, none⟩ = some (.int .i64 an) := below_cell_of hb_w2 (by first | (go_simp; done) | (refine below_cell_of (w := w1) ?_ (by first | assumption | (go_simp; done)); (repeat (first | assumption | exact Below.refl _ _ | refine below_set ?_ (by first | omega | (simp; done) | (simp; omega)) _ | refine below_drawn ?_ | refine below_drawnN ?_ _ | refine below_new ?_ _))))
  have a1_w2 : w2.cell? ⟨w.heap.size, 1, none⟩ = some (.int .i64 ad) := below_cell_of hb_w2 (by first | (go_simp; done) | (refine below_cell_of (w := w1) ?_ (by first | assumption | (go_simp; done)); (repeat (first | assumption | exact Below.refl _ _ | refine below_set ?_ (by first | omega | (simp; done) | (simp; omega)) _ | refine below_drawn ?_ | refine below_drawnN ?_ _ | refine below_new ?_ _))))
  have b0_w2 : w2.cell? ⟨w.heap.size + 1, 0, none⟩ = some (.int .i64 bn) := below_cell_of hb_w2 (by first | (go_simp; done) | (refine below_cell_of (w := w1) ?_ (by first | assumption | (go_simp; done)); (repeat (first | assumption | exact Below.refl _ _ | refine below_set ?_ (by first | omega | (simp; done) | (simp; omega)) _ | refine below_drawn ?_ | refine below_drawnN ?_ _ | refine below_new ?_ _))))
  have b1_w2 : w2.cell? ⟨w.heap.size + 1, 1, none⟩ = some (.int .i64 bd) := below_cell_of hb_w2 (by first | (go_simp; done) | (refine below_cell_of (w := w1) ?_ (by first | assumption | (go_simp; done)); (repeat (first | assumption | exact Below.refl _ _ | refine below_set ?_ (by first | omega | (simp; done) | (simp; omega)) _ | refine below_drawn ?_ | refine below_drawnN ?_ _ | refine below_new ?_ _))))
  go_wp2_with fail
  refine (rvalid_any bn bd _).mono ?_
  rw [HB.out]
  rintro e w3 ⟨rfl, hb_w3⟩
  have hB_w3 : Below w.heap.size w w3 := below_on (by first | ((repeat (first | assumption | exact Below.refl _ _ | refine below_set ?_ (by first | omega | (simp; done) | (simp; omega)) _ | refine below_drawn ?_ | refine below_drawnN ?_ _ | refine below_new ?_ _)); done) | (refine below_on hB_w2 ?_; (repeat (first | assumption | exact Below.refl _ _ | refine below_set ?_ (by first | omega | (simp; done) | (simp; omega)) _ | refine below_drawn ?_ | refine below_drawnN ?_ _ | refine below_new ?_ _)))) hb_w3
  have hz_w3 := hb_w3.size
  try simp only [World.size_setCell] at hz_w3
  try simp only [World.size_drew] at hz_w3
  try simp only [World.size_drewN] at hz_w3
  try simp only [World.size_alloc] at hz_w3
  try simp only [World.size_setCell] at hz_w3
  try simp only [World.size_drew] at hz_w3
  try simp only [World.size_drewN] at hz_w3
  try simp only [World.size_alloc] at hz_w3
  have hl0_w3 : w.heap.size < w3.heap.size := by omega
  have hl1_w3 : w.heap.size + 1 < w3.heap.size := by omega
  have a0_w3 : w3.cell? ⟨w.heap.size, 0, none⟩ = some (.int .i64 an) := below_cell_of hb_w3 (by first | (go_simp; done) | (refine below_cell_of (w := w2) ?_ (by first | assumption | (go_simp; done)); (repeat (first | assumption | exact Below.refl _ _ | refine below_set ?_ (by first | omega | (simp; done) | (simp; omega)) _ | refine below_drawn ?_ | refine below_drawnN ?_ _ | refine below_new ?_ _))))
  have a1_w3 : w3.cell? ⟨w.heap.size, 1, none⟩ = some (.int .i64 ad) := below_cell_of hb_w3 (by first | (go_simp; done) | (refine below_cell_of (w := w2) ?_ (by first | assumption | (go_simp; done)); (repeat (first | assumption | exact Below.refl _ _ | refine below_set ?_ (by first | omega | (simp; done) | (simp; omega)) _ | refine below_drawn ?_ | refine below_drawnN ?_ _ | refine below_new ?_ _))))
  have b0_w3 : w3.cell? ⟨w.heap.size + 1, 0, none⟩ = some (.int .i64 bn) := below_cell_of hb_w3 (by first | (go_simp; done) | (refine below_cell_of (w := w2) ?_ (by first | assumption | (go_simp; done)); (repeat (first | assumption | exact Below.refl _ _ | refine below_set ?_ (by first | omega | (simp; done) | (simp; omega)) _ | refine below_drawn ?_ | refine below_drawnN ?_ _ | refine below_new ?_ _))))
  have b1_w3 : w3.cell? ⟨w.heap.size + 1, 1, none⟩ = some (.int .i64 bd) := below_cell_of hb_w3 (by first | (go_simp; done) | (refine below_cell_of (w := w2) ?_ (by first | assumption | (go_simp; done)); (repeat (first | assumption | exact Below.refl _ _ | refine below_set ?_ (by first | omega | (simp; done) | (simp; omega)) _ | refine below_drawn ?_ | refine below_drawnN ?_ _ | refine below_new ?_ _))))
  go_wp2_with fail
  refine (add_any an ad bn bd _ (by omega) (by omega)).mono ?_
  rw [HADD.out]
  rintro e w4 ⟨rfl, hb_w4⟩
  have hB_w4 : Below w.heap.size w w4 := below_on (by first | ((repeat (first | assumption | exact Below.refl _ _ | refine below_set ?_ (by first | omega | (simp; done) | (simp; omega)) _ | refine below_drawn ?_ | refine below_drawnN ?_ _ | refine below_new ?_ _)); done) | (refine below_on hB_w3 ?_; (repeat (first | assumption | exact Below.refl _ _ | refine below_set ?_ (by first | omega | (simp; done) | (simp; omega)) _ | refine below_drawn ?_ | refine below_drawnN ?_ _ | refine below_new ?_ _)))) hb_w4
  have hz_w4 := hb_w4.size
  try simp only [World.size_setCell] at hz_w4
  try simp only [World.size_drew] at hz_w4
  try simp only [World.size_drewN] at hz_w4
  try simp only [World.size_alloc] at hz_w4
  try simp only [World.size_setCell] at hz_w4
  try simp only [World.size_drew] at hz_w4
  try simp only [World.size_drewN] at hz_w4
  try simp only [World.size_alloc] at hz_w4
  have hl0_w4 : w.heap.size < w4.heap.size := by omega
  have hl1_w4 : w.heap.size + 1 < w4.heap.size := by omega
  have a0_w4 : w4.cell? ⟨w.heap.size, 0, none⟩ = some (.int .i64 an) := below_cell_of hb_w4 (by first | (go_simp; done) | (refine below_cell_of (w := w3) ?_ (by first | assumption | (go_simp; done)); (repeat (first | assumption | exact Below.refl _ _ | refine below_set ?_ (by first | omega | (simp; done) | (simp; omega)) _ | refine below_drawn ?_ | refine below_drawnN ?_ _ | refine below_new ?_ _))))
  have a1_w4 : w4.cell? ⟨w.heap.size, 1, none⟩ = some (.int .i64 ad) := below_cell_of hb_w4 (by first | (go_simp; done) | (refine below_cell_of (w := w3) ?_ (by first | assumption | (go_simp; done)); (repeat (first | assumption | exact Below.refl _ _ | refine below_set ?_ (by first | omega | (simp; done) | (simp; omega)) _ | refine below_drawn ?_ | refine below_drawnN ?_ _ | refine below_new ?_ _))))
  have b0_w4 : w4.cell? ⟨w.heap.size + 1, 0, none⟩ = some (.int .i64 bn) := below_cell_of hb_w4 (by first | (go_simp; done) | (refine below_cell_of (w := w3) ?_ (by first | assumption | (go_simp; done)); (repeat (first | assumption | exact Below.refl _ _ | refine below_set ?_ (by first | omega | (simp; done) | (simp; omega)) _ | refine below_drawn ?_ | refine below_drawnN ?_ _ | refine below_new ?_ _))))
  have b1_w4 : w4.cell? ⟨w.heap.size + 1, 1, none⟩ = some (.int .i64 bd) := below_cell_of hb_w4 (by first | (go_simp; done) | (refine below_cell_of (w := w3) ?_ (by first | assumption | (go_simp; done)); (repeat (first | assumption | exact Below.refl _ _ | refine below_set ?_ (by first | omega | (simp; done) | (simp; omega)) _ | refine below_drawn ?_ | refine below_drawnN ?_ _ | refine below_new ?_ _))))
  go_wp2_with fail
  refine (mul_any an ad bn bd _ (by omega) (by omega)).mono ?_
  rw [HMUL.out]
  rintro e w5 ⟨rfl, hb_w5⟩
  have hB_w5 : Below w.heap.size w w5 := below_on (by first | ((repeat (first | assumption | exact Below.refl _ _ | refine below_set ?_ (by first | omega | (simp; done) | (simp; omega)) _ | refine below_drawn ?_ | refine below_drawnN ?_ _ | refine below_new ?_ _)); done) | (refine below_on hB_w4 ?_; (repeat (first | assumption | exact Below.refl _ _ | refine below_set ?_ (by first | omega | (simp; done) | (simp; omega)) _ | refine below_drawn ?_ | refine below_drawnN ?_ _ | refine below_new ?_ _)))) hb_w5
  have hz_w5 := hb_w5.size
  try simp only [World.size_setCell] at hz_w5
  try simp only [World.size_drew] at hz_w5
  try simp only [World.size_drewN] at hz_w5
  try simp only [World.size_alloc] at hz_w5
  try simp only [World.size_setCell] at hz_w5
  try simp only [World.size_drew] at hz_w5
  try simp only [World.size_drewN] at hz_w5
  try simp only [World.size_alloc] at hz_w5
  have hl0_w5 : w.heap.size < w5.heap.size := by omega
  have hl1_w5 : w.heap.size + 1 < w5.heap.size := by omega
  have a0_w5 : w5.cell? ⟨w.heap.size, 0, none⟩ = some (.int .i64 an) := below_cell_of hb_w5 (by first | (go_simp; done) | (refine below_cell_of (w := w4) ?_ (by first | assumption | (go_simp; done)); (repeat (first | assumption | exact Below.refl _ _ | refine below_set ?_ (by first | omega | (simp; done) | (simp; omega)) _ | refine below_drawn ?_ | refine below_drawnN ?_ _ | refine below_new ?_ _))))
  have a1_w5 : w5.cell? ⟨w.heap.size, 1, none⟩ = some (.int .i64 ad) := below_cell_of hb_w5 (by first | (go_simp; done) | (refine below_cell_of (w := w4) ?_ (by first | assumption | (go_simp; done)); (repeat (first | assumption | exact Below.refl _ _ | refine below_set ?_ (by first | omega | (simp; done) | (simp; omega)) _ | refine below_drawn ?_ | refine below_drawnN ?_ _ | refine below_new ?_ _))))
  have b0_w5 : w5.cell? ⟨w.heap.size + 1, 0, none⟩ = some (.int .i64 bn) := below_cell_of hb_w5 (by first | (go_simp; done) | (refine below_cell_of (w := w4) ?_ (by first | assumption | (go_simp; done)); (repeat (first | assumption | exact Below.refl _ _ | refine below_set ?_ (by first | omega | (simp; done) | (simp; omega)) _ | refine below_drawn ?_ | refine below_drawnN ?_ _ | refine below_new ?_ _))))
  have b1_w5 : w5.cell? ⟨w.heap.size + 1, 1, none⟩ = some (.int .i64 bd) := below_cell_of hb_w5 (by first | (go_simp; done) | (refine below_cell_of (w := w4) ?_ (by first | assumption | (go_simp; done)); (repeat (first | assumption | exact Below.refl _ _ | refine below_set ?_ (by first | omega | (simp; done) | (simp; omega)) _ | refine below_drawn ?_ | refine below_drawnN ?_ _ | refine below_new ?_ _))))
  go_wp2
  refine wp_region_held_drew (S := (fun W => W.cell? ⟨w.heap.size, 0, none⟩ = some (.int .i64 an) ∧ W.cell? ⟨w.heap.size, 1, none⟩ = some (.int .i64 ad) ∧ W.cell? ⟨w.heap.size + 1, 0, none⟩ = some (.int .i64 bn) ∧ W.cell? ⟨w.heap.size + 1, 1, none⟩ = some (.int .i64 bd) ∧ Below w.heap.size w W)) (by kernel_rfl) ?_ (fun hHeld => ?_)
  · exact ⟨by first | assumption | (go_simp; done), by first | assumption | (go_simp; done), by first | assumption | (go_simp; done), by first | assumption | (go_simp; done), by (repeat (first | assumption | exact Below.refl _ _ | refine below_set ?_ (by first | omega | (simp; done) | (simp; omega)) _ | refine below_drawn ?_ | refine below_drawnN ?_ _ | refine below_new ?_ _))⟩
  refine wpAnyH_take (i := 0) (v := ?_) rfl (by kernel_rfl) (by kernel_rfl) (by kernel_rfl) (fun _ _ _ h => h) (Or.inl ⟨by rfl, ?_⟩) hHeld ?_
  rotate_left
  · intro wS hSw; obtain ⟨hS0, hS1, hS2, hS3, hS4⟩ := hSw; go_simp; (try simp only [E0.out]); (try simp only [E1.out]); (try simp only [E2.out]); (try simp only [E3.out]); (try simp only [E4.out]); try with_reducible rfl
  try go_simp
  refine wpAnyH_take (i := 1) (v := ?_) rfl (by kernel_rfl) (by kernel_rfl) (by kernel_rfl) (fun _ _ _ h => h) (Or.inl ⟨by rfl, ?_⟩) hHeld ?_
  rotate_left
  · intro wS hSw; obtain ⟨hS0, hS1, hS2, hS3, hS4⟩ := hSw; go_simp; (try simp only [E0.out]); (try simp only [E1.out]); (try simp only [E2.out]); (try simp only [E3.out]); (try simp only [E4.out]); try with_reducible rfl
  try go_simp
  refine wpAnyH_take (i := 2) (v := ?_) rfl (by kernel_rfl) (by kernel_rfl) (by kernel_rfl) (fun _ _ _ h => h) (Or.inl ⟨by rfl, ?_⟩) hHeld ?_
  rotate_left
  · intro wS hSw; obtain ⟨hS0, hS1, hS2, hS3, hS4⟩ := hSw; go_simp; (try simp only [E0.out]); (try simp only [E1.out]); (try simp only [E2.out]); (try simp only [E3.out]); (try simp only [E4.out]); try with_reducible rfl
  try go_simp
  refine wpAnyH_take (i := 3) (v := ?_) rfl (by kernel_rfl) (by kernel_rfl) (by kernel_rfl) (fun _ _ _ h => h) (Or.inl ⟨by rfl, ?_⟩) hHeld ?_
  rotate_left
  · intro wS hSw; obtain ⟨hS0, hS1, hS2, hS3, hS4⟩ := hSw; go_simp; (try simp only [E0.out]); (try simp only [E1.out]); (try simp only [E2.out]); (try simp only [E3.out]); (try simp only [E4.out]); try with_reducible rfl
  try go_simp
  refine wpAnyH_take (i := 4) (v := ?_) rfl (by kernel_rfl) (by kernel_rfl) (by kernel_rfl) (fun _ _ _ h => h) (Or.inl ⟨by rfl, ?_⟩) hHeld ?_
  rotate_left
  · intro wS hSw; obtain ⟨hS0, hS1, hS2, hS3, hS4⟩ := hSw; go_simp; (try simp only [E0.out]); (try simp only [E1.out]); (try simp only [E2.out]); (try simp only [E3.out]); (try simp only [E4.out]); try with_reducible rfl
  try go_simp
  refine wpAnyH_take (i := 5) (v := ?_) rfl (by kernel_rfl) (by kernel_rfl) (by kernel_rfl) (fun _ _ _ h => h) (Or.inl ⟨by rfl, ?_⟩) hHeld ?_
  rotate_left
  · intro wS hSw; obtain ⟨hS0, hS1, hS2, hS3, hS4⟩ := hSw; go_simp; (try simp only [E0.out]); (try simp only [E1.out]); (try simp only [E2.out]); (try simp only [E3.out]); (try simp only [E4.out]); try with_reducible rfl
  try go_simp
  refine wpAnyH_take (i := 6) (v := ?_) rfl (by kernel_rfl) (by kernel_rfl) (by kernel_rfl) (fun _ _ _ h => h) (Or.inl ⟨by rfl, ?_⟩) hHeld ?_
  rotate_left
  · intro wS hSw; obtain ⟨hS0, hS1, hS2, hS3, hS4⟩ := hSw; go_simp; (try simp only [E0.out]); (try simp only [E1.out]); (try simp only [E2.out]); (try simp only [E3.out]); (try simp only [E4.out]); try with_reducible rfl
  try go_simp
  refine wpAnyH_take (i := 7) (v := ?_) rfl (by kernel_rfl) (by kernel_rfl) (by kernel_rfl) (fun _ _ _ h => h) (Or.inl ⟨by rfl, ?_⟩) hHeld ?_
  rotate_left
  · intro wS hSw; obtain ⟨hS0, hS1, hS2, hS3, hS4⟩ := hSw; go_simp; (try simp only [E0.out]); (try simp only [E1.out]); (try simp only [E2.out]); (try simp only [E3.out]); (try simp only [E4.out]); try with_reducible rfl
  try go_simp
  refine wpAnyH_take (i := 8) (v := ?_) rfl (by kernel_rfl) (by kernel_rfl) (by kernel_rfl) (fun _ _ _ h => h) (Or.inl ⟨by rfl, ?_⟩) hHeld ?_
  rotate_left
  · intro wS hSw; obtain ⟨hS0, hS1, hS2, hS3, hS4⟩ := hSw; go_simp; (try simp only [E0.out]); (try simp only [E1.out]); (try simp only [E2.out]); (try simp only [E3.out]); (try simp only [E4.out]); try with_reducible rfl
  try go_simp
  refine wpAnyH_take (i := 9) (v := ?_) rfl (by kernel_rfl) (by kernel_rfl) (by kernel_rfl) (fun _ _ _ h => h) (Or.inl ⟨by rfl, ?_⟩) hHeld ?_
  rotate_left
  · intro wS hSw; obtain ⟨hS0, hS1, hS2, hS3, hS4⟩ := hSw; go_simp; (try simp only [E0.out]); (try simp only [E1.out]); (try simp only [E2.out]); (try simp only [E3.out]); (try simp only [E4.out]); try with_reducible rfl
  try go_simp
  refine wpAnyH_take (i := 10) (v := ?_) rfl (by kernel_rfl) (by kernel_rfl) (by kernel_rfl) (fun _ _ _ h => h) (Or.inl ⟨by rfl, ?_⟩) hHeld ?_
  rotate_left
  · intro wS hSw; obtain ⟨hS0, hS1, hS2, hS3, hS4⟩ := hSw; go_simp; (try simp only [E0.out]); (try simp only [E1.out]); (try simp only [E2.out]); (try simp only [E3.out]); (try simp only [E4.out]); try with_reducible rfl
  try go_simp
  refine wpAnyH_take (i := 11) (v := ?_) rfl (by kernel_rfl) (by kernel_rfl) (by kernel_rfl) (fun _ _ _ h => h) (Or.inl ⟨by rfl, ?_⟩) hHeld ?_
  rotate_left
  · intro wS hSw; obtain ⟨hS0, hS1, hS2, hS3, hS4⟩ := hSw; go_simp; (try simp only [E0.out]); (try simp only [E1.out]); (try simp only [E2.out]); (try simp only [E3.out]); (try simp only [E4.out]); try with_reducible rfl
  try go_simp
  refine wpAnyH_take (i := 12) (v := ?_) rfl (by kernel_rfl) (by kernel_rfl) (by kernel_rfl) (fun _ _ _ h => h) (Or.inl ⟨by rfl, ?_⟩) hHeld ?_
  rotate_left
  · intro wS hSw; obtain ⟨hS0, hS1, hS2, hS3, hS4⟩ := hSw; go_simp; (try simp only [E0.out]); (try simp only [E1.out]); (try simp only [E2.out]); (try simp only [E3.out]); (try simp only [E4.out]); try with_reducible rfl
  try go_simp
  refine wpAnyH_take (i := 13) (v := ?_) rfl (by kernel_rfl) (by kernel_rfl) (by kernel_rfl) (fun _ _ _ h => h) (Or.inl ⟨by rfl, ?_⟩) hHeld ?_
  rotate_left
  · intro wS hSw; obtain ⟨hS0, hS1, hS2, hS3, hS4⟩ := hSw; go_simp; (try simp only [E0.out]); (try simp only [E1.out]); (try simp only [E2.out]); (try simp only [E3.out]); (try simp only [E4.out]); try with_reducible rfl
  try go_simp
  refine wpAnyH_take (i := 14) (v := ?_) rfl (by kernel_rfl) (by kernel_rfl) (by kernel_rfl) (fun _ _ _ h => h) (Or.inl ⟨by rfl, ?_⟩) hHeld ?_
  rotate_left
  · intro wS hSw; obtain ⟨hS0, hS1, hS2, hS3, hS4⟩ := hSw; go_simp; (try simp only [E0.out]); (try simp only [E1.out]); (try simp only [E2.out]); (try simp only [E3.out]); (try simp only [E4.out]); try with_reducible rfl
  try go_simp
  refine wpAnyH_take (i := 15) (v := ?_) rfl (by kernel_rfl) (by kernel_rfl) (by kernel_rfl) (fun _ _ _ h => h) (Or.inl ⟨by rfl, ?_⟩) hHeld ?_
  rotate_left
  · intro wS hSw; obtain ⟨hS0, hS1, hS2, hS3, hS4⟩ := hSw; go_simp; (try simp only [E0.out]); (try simp only [E1.out]); (try simp only [E2.out]); (try simp only [E3.out]); (try simp only [E4.out]); try with_reducible rfl
  try go_simp
  refine wpAnyH_take (i := 17) (v := ?_) rfl (by kernel_rfl) (by kernel_rfl) (by kernel_rfl) (fun _ _ _ h => h) (Or.inl ⟨by rfl, ?_⟩) hHeld ?_
  rotate_left
  · intro wS hSw; obtain ⟨hS0, hS1, hS2, hS3, hS4⟩ := hSw; go_simp; (try simp only [E0.out]); (try simp only [E1.out]); (try simp only [E2.out]); (try simp only [E3.out]); (try simp only [E4.out]); try with_reducible rfl
  try go_simp
  refine wpAnyH_take (i := 18) (v := ?_) rfl (by kernel_rfl) (by kernel_rfl) (by kernel_rfl) (fun _ _ _ h => h) (Or.inl ⟨by rfl, ?_⟩) hHeld ?_
  rotate_left
  · intro wS hSw; obtain ⟨hS0, hS1, hS2, hS3, hS4⟩ := hSw; go_simp; (try simp only [E0.out]); (try simp only [E1.out]); (try simp only [E2.out]); (try simp only [E3.out]); (try simp only [E4.out]); try with_reducible rfl
  try go_simp
  refine wpAnyH_take (i := 19) (v := ?_) rfl (by kernel_rfl) (by kernel_rfl) (by kernel_rfl) (fun _ _ _ h => h) (Or.inl ⟨by rfl, ?_⟩) hHeld ?_
  rotate_left
  · intro wS hSw; obtain ⟨hS0, hS1, hS2, hS3, hS4⟩ := hSw; go_simp; (try simp only [E0.out]); (try simp only [E1.out]); (try simp only [E2.out]); (try simp only [E3.out]); (try simp only [E4.out]); try with_reducible rfl
  try go_simp
  refine wpAnyH_take (i := 20) (v := ?_) rfl (by kernel_rfl) (by kernel_rfl) (by kernel_rfl) (fun _ _ _ h => h) (Or.inl ⟨by rfl, ?_⟩) hHeld ?_
  rotate_left
  · intro wS hSw; obtain ⟨hS0, hS1, hS2, hS3, hS4⟩ := hSw; go_simp; (try simp only [E0.out]); (try simp only [E1.out]); (try simp only [E2.out]); (try simp only [E3.out]); (try simp only [E4.out]); try with_reducible rfl
  try go_simp
  refine wpAnyH_take (i := 21) (v := ?_) rfl (by kernel_rfl) (by kernel_rfl) (by kernel_rfl) (fun _ _ _ h => h) (Or.inl ⟨by rfl, ?_⟩) hHeld ?_
  rotate_left
  · intro wS hSw; obtain ⟨hS0, hS1, hS2, hS3, hS4⟩ := hSw; go_simp; (try simp only [E0.out]); (try simp only [E1.out]); (try simp only [E2.out]); (try simp only [E3.out]); (try simp only [E4.out]); try with_reducible rfl
  try go_simp
  refine wpAnyH_take (i := 22) (v := ?_) rfl (by kernel_rfl) (by kernel_rfl) (by kernel_rfl) (fun _ _ _ h => h) (Or.inl ⟨by rfl, ?_⟩) hHeld ?_
  rotate_left
  · intro wS hSw; obtain ⟨hS0, hS1, hS2, hS3, hS4⟩ := hSw; go_simp; (try simp only [E0.out]); (try simp only [E1.out]); (try simp only [E2.out]); (try simp only [E3.out]); (try simp only [E4.out]); try with_reducible rfl
  try go_simp
  refine wpAnyH_take (i := 23) (v := ?_) rfl (by kernel_rfl) (by kernel_rfl) (by kernel_rfl) (fun _ _ _ h => h) (Or.inl ⟨by rfl, ?_⟩) hHeld ?_
  rotate_left
  · intro wS hSw; obtain ⟨hS0, hS1, hS2, hS3, hS4⟩ := hSw; go_simp; (try simp only [E0.out]); (try simp only [E1.out]); (try simp only [E2.out]); (try simp only [E3.out]); (try simp only [E4.out]); try with_reducible rfl
  try go_simp
  refine wpAnyH_take (i := 24) (v := ?_) rfl (by kernel_rfl) (by kernel_rfl) (by kernel_rfl) (fun _ _ _ h => h) (Or.inl ⟨by rfl, ?_⟩) hHeld ?_
  rotate_left
  · intro wS hSw; obtain ⟨hS0, hS1, hS2, hS3, hS4⟩ := hSw; go_simp; (try simp only [E0.out]); (try simp only [E1.out]); (try simp only [E2.out]); (try simp only [E3.out]); (try simp only [E4.out]); try with_reducible rfl
  try go_simp
  refine wpAnyH_take (i := 25) (v := ?_) rfl (by kernel_rfl) (by kernel_rfl) (by kernel_rfl) (fun _ _ _ h => h) (Or.inl ⟨by rfl, ?_⟩) hHeld ?_
  rotate_left
  · intro wS hSw; obtain ⟨hS0, hS1, hS2, hS3, hS4⟩ := hSw; go_simp; (try simp only [E0.out]); (try simp only [E1.out]); (try simp only [E2.out]); (try simp only [E3.out]); (try simp only [E4.out]); try with_reducible rfl
  try go_simp
  refine wpAnyH_take (i := 26) (v := ?_) rfl (by kernel_rfl) (by kernel_rfl) (by kernel_rfl) (fun _ _ _ h => h) (Or.inl ⟨by rfl, ?_⟩) hHeld ?_
  rotate_left
  · intro wS hSw; obtain ⟨hS0, hS1, hS2, hS3, hS4⟩ := hSw; go_simp; (try simp only [E0.out]); (try simp only [E1.out]); (try simp only [E2.out]); (try simp only [E3.out]); (try simp only [E4.out]); try with_reducible rfl
  try go_simp
  refine wpAnyH_ready (rs := [16]) (by kernel_rfl) (by simp) ?_
  refine AllReadyH.cons rfl (fun K hK => ?_) AllReadyH.nil
  go_simp
  refine (outside_any (an * bd + bn * ad) (ad * bd) _ (by omega) (by omega) hpos (by omega)).mono ?_
  rw [HO.out]
  rintro e x1 ⟨rfl, rfl⟩
  refine hK.out _ _ ?_ (fun hHeld => ?_)
  · exact ⟨by first | assumption | (go_simp; done), by first | assumption | (go_simp; done), by first | assumption | (go_simp; done), by first | assumption | (go_simp; done), by (repeat (first | assumption | exact Below.refl _ _ | refine below_set ?_ (by first | omega | (simp; done) | (simp; omega)) _ | refine below_drawn ?_ | refine below_drawnN ?_ _ | refine below_new ?_ _))⟩
  clear hK K
  try go_simp
  refine wpAnyH_ready (rs := [27]) (by kernel_rfl) (by simp) ?_
  refine AllReadyH.cons rfl (fun K hK => ?_) AllReadyH.nil
  go_simp
  refine (outside_any (an * bn) (ad * bd) _ (by omega) (by omega) hpos (by omega)).mono ?_
  rw [HP.out]
  rintro e x1 ⟨rfl, rfl⟩
  refine hK.out _ _ ?_ (fun hHeld => ?_)
  · exact ⟨by first | assumption | (go_simp; done), by first | assumption | (go_simp; done), by first | assumption | (go_simp; done), by first | assumption | (go_simp; done), by (repeat (first | assumption | exact Below.refl _ _ | refine below_set ?_ (by first | omega | (simp; done) | (simp; omega)) _ | refine below_drawn ?_ | refine below_drawnN ?_ _ | refine below_new ?_ _))⟩
  clear hK K
  try go_simp
  refine wpAnyH_take (i := 28) (v := ?_) rfl (by kernel_rfl) (by kernel_rfl) (by kernel_rfl) (fun _ _ _ h => h) (Or.inl ⟨by rfl, ?_⟩) hHeld ?_
  rotate_left
  · intro wS hSw; obtain ⟨hS0, hS1, hS2, hS3, hS4⟩ := hSw; go_simp; (try simp only [E0.out]); (try simp only [E1.out]); (try simp only [E2.out]); (try simp only [E3.out]); (try simp only [E4.out]); try with_reducible rfl
  try go_simp
  refine wpAnyH_take (i := 29) (v := ?_) rfl (by kernel_rfl) (by kernel_rfl) (by kernel_rfl) (fun _ _ _ h => h) (Or.inl ⟨by rfl, ?_⟩) hHeld ?_
  rotate_left
  · intro wS hSw; obtain ⟨hS0, hS1, hS2, hS3, hS4⟩ := hSw; go_simp; (try simp only [E0.out]); (try simp only [E1.out]); (try simp only [E2.out]); (try simp only [E3.out]); (try simp only [E4.out]); try with_reducible rfl
  try go_simp
  refine wpAnyH_done (by kernel_rfl) ?_ _
  obtain ⟨_, _, _, _, hBW⟩ := hHeld
  go_wp2
  go_ret
  exact ⟨rfl, hBW⟩
set_option maxHeartbeats 4000000 in
set_option maxRecDepth 100000 in
theorem range_01 (an ad bn bd sx sy ux uy : Int) (w : World) (ha : Rt.valid an ad = true) (hb : Rt.valid bn bd = true) (hadd : Rt.add an ad bn bd = (sx, sy, 0)) (hmul : Rt.mul an ad bn bd = (ux, uy, 3)) (ho : Rt.outside (an * bd + bn * ad) (ad * bd) = false) (hp : Rt.outside (an * bn) (ad * bd) = true) : Calls Try.prog 9 #[.agg #[.int .i64 an, .int .i64 ad], .agg #[.int .i64 bn, .int .i64 bd]] w fun e w' => e = .returned (.bool true) ∧ Below w.heap.size w w' := by
  obtain ⟨a0, a1, a2, a3⟩ := Rt.valid_bd ha
  obtain ⟨b0, b1, b2, b3⟩ := Rt.valid_bd hb
  have hpos : 0 < ad * bd := Int.mul_pos (by omega) (by omega)
  obtain ⟨m0, n0⟩ := prod_in (a := an) (b := bd) (by omega) (by omega) (by omega) (by omega)
  obtain ⟨m1, n1⟩ := prod_in (a := bn) (b := ad) (by omega) (by omega) (by omega) (by omega)
  obtain ⟨m2, n2⟩ := prod_in (a := ad) (b := bd) (by omega) (by omega) (by omega) (by omega)
  obtain ⟨m3, n3⟩ := prod_in (a := an) (b := bn) (by omega) (by omega) (by omega) (by omega)
  have e0 : IntKind.i64.wrap (an * bd) = an * bd := IntWalk.i64_in _ ⟨by omega, by omega⟩
  have E0 := Lib.hid e0
  have e1 : IntKind.i64.wrap (bn * ad) = bn * ad := IntWalk.i64_in _ ⟨by omega, by omega⟩
  have E1 := Lib.hid e1
  have e2 : IntKind.i64.wrap (ad * bd) = ad * bd := IntWalk.i64_in _ ⟨by omega, by omega⟩
  have E2 := Lib.hid e2
  have e3 : IntKind.i64.wrap (an * bn) = an * bn := IntWalk.i64_in _ ⟨by omega, by omega⟩
  have E3 := Lib.hid e3
  have e4 : IntKind.i64.wrap (an * bd + bn * ad) = an * bd + bn * ad := IntWalk.i64_in _ ⟨by omega, by omega⟩
  have E4 := Lib.hid e4
  clear e0 e1 e2 e3 e4
  have HA := Lib.hid ha
  have HB := Lib.hid hb
  have HADD := Lib.hid hadd
  have HMUL := Lib.hid hmul
  have HO := Lib.hid ho
  have HP := Lib.hid hp
  clear ha hb hadd hmul ho hp
  go_enter Try.func9, Try.ntmps9
  go_wp2_with fail
  refine (head_ok _).mono ?_
  rintro e w1 ⟨rfl, hb_w1⟩
  have hB_w1 : Below w.heap.size w w1 := below_on (by (repeat (first | assumption | exact Below.refl _ _ | refine below_set ?_ (by first | omega | (simp; done) | (simp; omega)) _ | refine below_drawn ?_ | refine below_drawnN ?_ _ | refine below_new ?_ _))) hb_w1
  have hz_w1 := hb_w1.size
  try simp only [World.size_setCell] at hz_w1
  try simp only [World.size_drew] at hz_w1
  try simp only [World.size_drewN] at hz_w1
  try simp only [World.size_alloc] at hz_w1
  try simp only [World.size_setCell] at hz_w1
  try simp only [World.size_drew] at hz_w1
  try simp only [World.size_drewN] at hz_w1
  try simp only [World.size_alloc] at hz_w1
  have hl0_w1 : w.heap.size < w1.heap.size := by omega
  have hl1_w1 : w.heap.size + 1 < w1.heap.size := by omega
  have a0_w1 : w1.cell? ⟨w.heap.size, 0, none⟩ = some (.int .i64 an) := below_cell_of hb_w1 (by first | (go_simp; done) | (refine below_cell_of (w := w) ?_ (by first | assumption | (go_simp; done)); (repeat (first | assumption | exact Below.refl _ _ | refine below_set ?_ (by first | omega | (simp; done) | (simp; omega)) _ | refine below_drawn ?_ | refine below_drawnN ?_ _ | refine below_new ?_ _))))
  have a1_w1 : w1.cell? ⟨w.heap.size, 1, none⟩ = some (.int .i64 ad) := below_cell_of hb_w1 (by first | (go_simp; done) | (refine below_cell_of (w := w) ?_ (by first | assumption | (go_simp; done)); (repeat (first | assumption | exact Below.refl _ _ | refine below_set ?_ (by first | omega | (simp; done) | (simp; omega)) _ | refine below_drawn ?_ | refine below_drawnN ?_ _ | refine below_new ?_ _))))
  have b0_w1 : w1.cell? ⟨w.heap.size + 1, 0, none⟩ = some (.int .i64 bn) := below_cell_of hb_w1 (by first | (go_simp; done) | (refine below_cell_of (w := w) ?_ (by first | assumption | (go_simp; done)); (repeat (first | assumption | exact Below.refl _ _ | refine below_set ?_ (by first | omega | (simp; done) | (simp; omega)) _ | refine below_drawn ?_ | refine below_drawnN ?_ _ | refine below_new ?_ _))))
  have b1_w1 : w1.cell? ⟨w.heap.size + 1, 1, none⟩ = some (.int .i64 bd) := below_cell_of hb_w1 (by first | (go_simp; done) | (refine below_cell_of (w := w) ?_ (by first | assumption | (go_simp; done)); (repeat (first | assumption | exact Below.refl _ _ | refine below_set ?_ (by first | omega | (simp; done) | (simp; omega)) _ | refine below_drawn ?_ | refine below_drawnN ?_ _ | refine below_new ?_ _))))
  go_wp2_with fail
  refine (rvalid_any an ad _).mono ?_
  rw [HA.out]
  rintro e w2 ⟨rfl, hb_w2⟩
  have hB_w2 : Below w.heap.size w w2 := below_on (by first | ((repeat (first | assumption | exact Below.refl _ _ | refine below_set ?_ (by first | omega | (simp; done) | (simp; omega)) _ | refine below_drawn ?_ | refine below_drawnN ?_ _ | refine below_new ?_ _)); done) | (refine below_on hB_w1 ?_; (repeat (first | assumption | exact Below.refl _ _ | refine below_set ?_ (by first | omega | (simp; done) | (simp; omega)) _ | refine below_drawn ?_ | refine below_drawnN ?_ _ | refine below_new ?_ _)))) hb_w2
  have hz_w2 := hb_w2.size
  try simp only [World.size_setCell] at hz_w2
  try simp only [World.size_drew] at hz_w2
  try simp only [World.size_drewN] at hz_w2
  try simp only [World.size_alloc] at hz_w2
  try simp only [World.size_setCell] at hz_w2
  try simp only [World.size_drew] at hz_w2
  try simp only [World.size_drewN] at hz_w2
  try simp only [World.size_alloc] at hz_w2
  have hl0_w2 : w.heap.size < w2.heap.size := by omega
  have hl1_w2 : w.heap.size + 1 < w2.heap.size := by omega
  have a0_w2 : w2.cell? ⟨w.heap.size, 0, none⟩ = some (.int .i64 an) := below_cell_of hb_w2 (by first | (go_simp; done) | (refine below_cell_of (w := w1) ?_ (by first | assumption | (go_simp; done)); (repeat (first | assumption | exact Below.refl _ _ | refine below_set ?_ (by first | omega | (simp; done) | (simp; omega)) _ | refine below_drawn ?_ | refine below_drawnN ?_ _ | refine below_new ?_ _))))
  have a1_w2 : w2.cell? ⟨w.heap.size, 1, none⟩ = some (.int .i64 ad) := below_cell_of hb_w2 (by first | (go_simp; done) | (refine below_cell_of (w := w1) ?_ (by first | assumption | (go_simp; done)); (repeat (first | assumption | exact Below.refl _ _ | refine below_set ?_ (by first | omega | (simp; done) | (simp; omega)) _ | refine below_drawn ?_ | refine below_drawnN ?_ _ | refine below_new ?_ _))))
  have b0_w2 : w2.cell? ⟨w.heap.size + 1, 0, none⟩ = some (.int .i64 bn) := below_cell_of hb_w2 (by first | (go_simp; done) | (refine below_cell_of (w := w1) ?_ (by first | assumption | (go_simp; done)); (repeat (first | assumption | exact Below.refl _ _ | refine below_set ?_ (by first | omega | (simp; done) | (simp; omega)) _ | refine below_drawn ?_ | refine below_drawnN ?_ _ | refine below_new ?_ _))))
  have b1_w2 : w2.cell? ⟨w.heap.size + 1, 1, none⟩ = some (.int .i64 bd) := below_cell_of hb_w2 (by first | (go_simp; done) | (refine below_cell_of (w := w1) ?_ (by first | assumption | (go_simp; done)); (repeat (first | assumption | exact Below.refl _ _ | refine below_set ?_ (by first | omega | (simp; done) | (simp; omega)) _ | refine below_drawn ?_ | refine below_drawnN ?_ _ | refine below_new ?_ _))))
  go_wp2_with fail
  refine (rvalid_any bn bd _).mono ?_
  rw [HB.out]
  rintro e w3 ⟨rfl, hb_w3⟩
  have hB_w3 : Below w.heap.size w w3 := below_on (by first | ((repeat (first | assumption | exact Below.refl _ _ | refine below_set ?_ (by first | omega | (simp; done) | (simp; omega)) _ | refine below_drawn ?_ | refine below_drawnN ?_ _ | refine below_new ?_ _)); done) | (refine below_on hB_w2 ?_; (repeat (first | assumption | exact Below.refl _ _ | refine below_set ?_ (by first | omega | (simp; done) | (simp; omega)) _ | refine below_drawn ?_ | refine below_drawnN ?_ _ | refine below_new ?_ _)))) hb_w3
  have hz_w3 := hb_w3.size
  try simp only [World.size_setCell] at hz_w3
  try simp only [World.size_drew] at hz_w3
  try simp only [World.size_drewN] at hz_w3
  try simp only [World.size_alloc] at hz_w3
  try simp only [World.size_setCell] at hz_w3
  try simp only [World.size_drew] at hz_w3
  try simp only [World.size_drewN] at hz_w3
  try simp only [World.size_alloc] at hz_w3
  have hl0_w3 : w.heap.size < w3.heap.size := by omega
  have hl1_w3 : w.heap.size + 1 < w3.heap.size := by omega
  have a0_w3 : w3.cell? ⟨w.heap.size, 0, none⟩ = some (.int .i64 an) := below_cell_of hb_w3 (by first | (go_simp; done) | (refine below_cell_of (w := w2) ?_ (by first | assumption | (go_simp; done)); (repeat (first | assumption | exact Below.refl _ _ | refine below_set ?_ (by first | omega | (simp; done) | (simp; omega)) _ | refine below_drawn ?_ | refine below_drawnN ?_ _ | refine below_new ?_ _))))
  have a1_w3 : w3.cell? ⟨w.heap.size, 1, none⟩ = some (.int .i64 ad) := below_cell_of hb_w3 (by first | (go_simp; done) | (refine below_cell_of (w := w2) ?_ (by first | assumption | (go_simp; done)); (repeat (first | assumption | exact Below.refl _ _ | refine below_set ?_ (by first | omega | (simp; done) | (simp; omega)) _ | refine below_drawn ?_ | refine below_drawnN ?_ _ | refine below_new ?_ _))))
  have b0_w3 : w3.cell? ⟨w.heap.size + 1, 0, none⟩ = some (.int .i64 bn) := below_cell_of hb_w3 (by first | (go_simp; done) | (refine below_cell_of (w := w2) ?_ (by first | assumption | (go_simp; done)); (repeat (first | assumption | exact Below.refl _ _ | refine below_set ?_ (by first | omega | (simp; done) | (simp; omega)) _ | refine below_drawn ?_ | refine below_drawnN ?_ _ | refine below_new ?_ _))))
  have b1_w3 : w3.cell? ⟨w.heap.size + 1, 1, none⟩ = some (.int .i64 bd) := below_cell_of hb_w3 (by first | (go_simp; done) | (refine below_cell_of (w := w2) ?_ (by first | assumption | (go_simp; done)); (repeat (first | assumption | exact Below.refl _ _ | refine below_set ?_ (by first | omega | (simp; done) | (simp; omega)) _ | refine below_drawn ?_ | refine below_drawnN ?_ _ | refine below_new ?_ _))))
  go_wp2_with fail
  refine (add_any an ad bn bd _ (by omega) (by omega)).mono ?_
  rw [HADD.out]
  rintro e w4 ⟨rfl, hb_w4⟩
  have hB_w4 : Below w.heap.size w w4 := below_on (by first | ((repeat (first | assumption | exact Below.refl _ _ | refine below_set ?_ (by first | omega | (simp; done) | (simp; omega)) _ | refine below_drawn ?_ | refine below_drawnN ?_ _ | refine below_new ?_ _)); done) | (refine below_on hB_w3 ?_; (repeat (first | assumption | exact Below.refl _ _ | refine below_set ?_ (by first | omega | (simp; done) | (simp; omega)) _ | refine below_drawn ?_ | refine below_drawnN ?_ _ | refine below_new ?_ _)))) hb_w4
  have hz_w4 := hb_w4.size
  try simp only [World.size_setCell] at hz_w4
  try simp only [World.size_drew] at hz_w4
  try simp only [World.size_drewN] at hz_w4
  try simp only [World.size_alloc] at hz_w4
  try simp only [World.size_setCell] at hz_w4
  try simp only [World.size_drew] at hz_w4
  try simp only [World.size_drewN] at hz_w4
  try simp only [World.size_alloc] at hz_w4
  have hl0_w4 : w.heap.size < w4.heap.size := by omega
  have hl1_w4 : w.heap.size + 1 < w4.heap.size := by omega
  have a0_w4 : w4.cell? ⟨w.heap.size, 0, none⟩ = some (.int .i64 an) := below_cell_of hb_w4 (by first | (go_simp; done) | (refine below_cell_of (w := w3) ?_ (by first | assumption | (go_simp; done)); (repeat (first | assumption | exact Below.refl _ _ | refine below_set ?_ (by first | omega | (simp; done) | (simp; omega)) _ | refine below_drawn ?_ | refine below_drawnN ?_ _ | refine below_new ?_ _))))
  have a1_w4 : w4.cell? ⟨w.heap.size, 1, none⟩ = some (.int .i64 ad) := below_cell_of hb_w4 (by first | (go_simp; done) | (refine below_cell_of (w := w3) ?_ (by first | assumption | (go_simp; done)); (repeat (first | assumption | exact Below.refl _ _ | refine below_set ?_ (by first | omega | (simp; done) | (simp; omega)) _ | refine below_drawn ?_ | refine below_drawnN ?_ _ | refine below_new ?_ _))))
  have b0_w4 : w4.cell? ⟨w.heap.size + 1, 0, none⟩ = some (.int .i64 bn) := below_cell_of hb_w4 (by first | (go_simp; done) | (refine below_cell_of (w := w3) ?_ (by first | assumption | (go_simp; done)); (repeat (first | assumption | exact Below.refl _ _ | refine below_set ?_ (by first | omega | (simp; done) | (simp; omega)) _ | refine below_drawn ?_ | refine below_drawnN ?_ _ | refine below_new ?_ _))))
  have b1_w4 : w4.cell? ⟨w.heap.size + 1, 1, none⟩ = some (.int .i64 bd) := below_cell_of hb_w4 (by first | (go_simp; done) | (refine below_cell_of (w := w3) ?_ (by first | assumption | (go_simp; done)); (repeat (first | assumption | exact Below.refl _ _ | refine below_set ?_ (by first | omega | (simp; done) | (simp; omega)) _ | refine below_drawn ?_ | refine below_drawnN ?_ _ | refine below_new ?_ _))))
  go_wp2_with fail
  refine (mul_any an ad bn bd _ (by omega) (by omega)).mono ?_
  rw [HMUL.out]
  rintro e w5 ⟨rfl, hb_w5⟩
  have hB_w5 : Below w.heap.size w w5 := below_on (by first | ((repeat (first | assumption | exact Below.refl _ _ | refine below_set ?_ (by first | omega | (simp; done) | (simp; omega)) _ | refine below_drawn ?_ | refine below_drawnN ?_ _ | refine below_new ?_ _)); done) | (refine below_on hB_w4 ?_; (repeat (first | assumption | exact Below.refl _ _ | refine below_set ?_ (by first | omega | (simp; done) | (simp; omega)) _ | refine below_drawn ?_ | refine below_drawnN ?_ _ | refine below_new ?_ _)))) hb_w5
  have hz_w5 := hb_w5.size
  try simp only [World.size_setCell] at hz_w5
  try simp only [World.size_drew] at hz_w5
  try simp only [World.size_drewN] at hz_w5
  try simp only [World.size_alloc] at hz_w5
  try simp only [World.size_setCell] at hz_w5
  try simp only [World.size_drew] at hz_w5
  try simp only [World.size_drewN] at hz_w5
  try simp only [World.size_alloc] at hz_w5
  have hl0_w5 : w.heap.size < w5.heap.size := by omega
  have hl1_w5 : w.heap.size + 1 < w5.heap.size := by omega
  have a0_w5 : w5.cell? ⟨w.heap.size, 0, none⟩ = some (.int .i64 an) := below_cell_of hb_w5 (by first | (go_simp; done) | (refine below_cell_of (w := w4) ?_ (by first | assumption | (go_simp; done)); (repeat (first | assumption | exact Below.refl _ _ | refine below_set ?_ (by first | omega | (simp; done) | (simp; omega)) _ | refine below_drawn ?_ | refine below_drawnN ?_ _ | refine below_new ?_ _))))
  have a1_w5 : w5.cell? ⟨w.heap.size, 1, none⟩ = some (.int .i64 ad) := below_cell_of hb_w5 (by first | (go_simp; done) | (refine below_cell_of (w := w4) ?_ (by first | assumption | (go_simp; done)); (repeat (first | assumption | exact Below.refl _ _ | refine below_set ?_ (by first | omega | (simp; done) | (simp; omega)) _ | refine below_drawn ?_ | refine below_drawnN ?_ _ | refine below_new ?_ _))))
  have b0_w5 : w5.cell? ⟨w.heap.size + 1, 0, none⟩ = some (.int .i64 bn) := below_cell_of hb_w5 (by first | (go_simp; done) | (refine below_cell_of (w := w4) ?_ (by first | assumption | (go_simp; done)); (repeat (first | assumption | exact Below.refl _ _ | refine below_set ?_ (by first | omega | (simp; done) | (simp; omega)) _ | refine below_drawn ?_ | refine below_drawnN ?_ _ | refine below_new ?_ _))))
  have b1_w5 : w5.cell? ⟨w.heap.size + 1, 1, none⟩ = some (.int .i64 bd) := below_cell_of hb_w5 (by first | (go_simp; done) | (refine below_cell_of (w := w4) ?_ (by first | assumption | (go_simp; done)); (repeat (first | assumption | exact Below.refl _ _ | refine below_set ?_ (by first | omega | (simp; done) | (simp; omega)) _ | refine below_drawn ?_ | refine below_drawnN ?_ _ | refine below_new ?_ _))))
  go_wp2
  refine wp_region_held_drew (S := (fun W => W.cell? ⟨w.heap.size, 0, none⟩ = some (.int .i64 an) ∧ W.cell? ⟨w.heap.size, 1, none⟩ = some (.int .i64 ad) ∧ W.cell? ⟨w.heap.size + 1, 0, none⟩ = some (.int .i64 bn) ∧ W.cell? ⟨w.heap.size + 1, 1, none⟩ = some (.int .i64 bd) ∧ Below w.heap.size w W)) (by kernel_rfl) ?_ (fun hHeld => ?_)
  · exact ⟨by first | assumption | (go_simp; done), by first | assumption | (go_simp; done), by first | assumption | (go_simp; done), by first | assumption | (go_simp; done), by (repeat (first | assumption | exact Below.refl _ _ | refine below_set ?_ (by first | omega | (simp; done) | (simp; omega)) _ | refine below_drawn ?_ | refine below_drawnN ?_ _ | refine below_new ?_ _))⟩
  refine wpAnyH_take (i := 0) (v := ?_) rfl (by kernel_rfl) (by kernel_rfl) (by kernel_rfl) (fun _ _ _ h => h) (Or.inl ⟨by rfl, ?_⟩) hHeld ?_
  rotate_left
  · intro wS hSw; obtain ⟨hS0, hS1, hS2, hS3, hS4⟩ := hSw; go_simp; (try simp only [E0.out]); (try simp only [E1.out]); (try simp only [E2.out]); (try simp only [E3.out]); (try simp only [E4.out]); try with_reducible rfl
  try go_simp
  refine wpAnyH_take (i := 1) (v := ?_) rfl (by kernel_rfl) (by kernel_rfl) (by kernel_rfl) (fun _ _ _ h => h) (Or.inl ⟨by rfl, ?_⟩) hHeld ?_
  rotate_left
  · intro wS hSw; obtain ⟨hS0, hS1, hS2, hS3, hS4⟩ := hSw; go_simp; (try simp only [E0.out]); (try simp only [E1.out]); (try simp only [E2.out]); (try simp only [E3.out]); (try simp only [E4.out]); try with_reducible rfl
  try go_simp
  refine wpAnyH_take (i := 2) (v := ?_) rfl (by kernel_rfl) (by kernel_rfl) (by kernel_rfl) (fun _ _ _ h => h) (Or.inl ⟨by rfl, ?_⟩) hHeld ?_
  rotate_left
  · intro wS hSw; obtain ⟨hS0, hS1, hS2, hS3, hS4⟩ := hSw; go_simp; (try simp only [E0.out]); (try simp only [E1.out]); (try simp only [E2.out]); (try simp only [E3.out]); (try simp only [E4.out]); try with_reducible rfl
  try go_simp
  refine wpAnyH_take (i := 3) (v := ?_) rfl (by kernel_rfl) (by kernel_rfl) (by kernel_rfl) (fun _ _ _ h => h) (Or.inl ⟨by rfl, ?_⟩) hHeld ?_
  rotate_left
  · intro wS hSw; obtain ⟨hS0, hS1, hS2, hS3, hS4⟩ := hSw; go_simp; (try simp only [E0.out]); (try simp only [E1.out]); (try simp only [E2.out]); (try simp only [E3.out]); (try simp only [E4.out]); try with_reducible rfl
  try go_simp
  refine wpAnyH_take (i := 4) (v := ?_) rfl (by kernel_rfl) (by kernel_rfl) (by kernel_rfl) (fun _ _ _ h => h) (Or.inl ⟨by rfl, ?_⟩) hHeld ?_
  rotate_left
  · intro wS hSw; obtain ⟨hS0, hS1, hS2, hS3, hS4⟩ := hSw; go_simp; (try simp only [E0.out]); (try simp only [E1.out]); (try simp only [E2.out]); (try simp only [E3.out]); (try simp only [E4.out]); try with_reducible rfl
  try go_simp
  refine wpAnyH_take (i := 5) (v := ?_) rfl (by kernel_rfl) (by kernel_rfl) (by kernel_rfl) (fun _ _ _ h => h) (Or.inl ⟨by rfl, ?_⟩) hHeld ?_
  rotate_left
  · intro wS hSw; obtain ⟨hS0, hS1, hS2, hS3, hS4⟩ := hSw; go_simp; (try simp only [E0.out]); (try simp only [E1.out]); (try simp only [E2.out]); (try simp only [E3.out]); (try simp only [E4.out]); try with_reducible rfl
  try go_simp
  refine wpAnyH_take (i := 6) (v := ?_) rfl (by kernel_rfl) (by kernel_rfl) (by kernel_rfl) (fun _ _ _ h => h) (Or.inl ⟨by rfl, ?_⟩) hHeld ?_
  rotate_left
  · intro wS hSw; obtain ⟨hS0, hS1, hS2, hS3, hS4⟩ := hSw; go_simp; (try simp only [E0.out]); (try simp only [E1.out]); (try simp only [E2.out]); (try simp only [E3.out]); (try simp only [E4.out]); try with_reducible rfl
  try go_simp
  refine wpAnyH_take (i := 7) (v := ?_) rfl (by kernel_rfl) (by kernel_rfl) (by kernel_rfl) (fun _ _ _ h => h) (Or.inl ⟨by rfl, ?_⟩) hHeld ?_
  rotate_left
  · intro wS hSw; obtain ⟨hS0, hS1, hS2, hS3, hS4⟩ := hSw; go_simp; (try simp only [E0.out]); (try simp only [E1.out]); (try simp only [E2.out]); (try simp only [E3.out]); (try simp only [E4.out]); try with_reducible rfl
  try go_simp
  refine wpAnyH_take (i := 8) (v := ?_) rfl (by kernel_rfl) (by kernel_rfl) (by kernel_rfl) (fun _ _ _ h => h) (Or.inl ⟨by rfl, ?_⟩) hHeld ?_
  rotate_left
  · intro wS hSw; obtain ⟨hS0, hS1, hS2, hS3, hS4⟩ := hSw; go_simp; (try simp only [E0.out]); (try simp only [E1.out]); (try simp only [E2.out]); (try simp only [E3.out]); (try simp only [E4.out]); try with_reducible rfl
  try go_simp
  refine wpAnyH_take (i := 9) (v := ?_) rfl (by kernel_rfl) (by kernel_rfl) (by kernel_rfl) (fun _ _ _ h => h) (Or.inl ⟨by rfl, ?_⟩) hHeld ?_
  rotate_left
  · intro wS hSw; obtain ⟨hS0, hS1, hS2, hS3, hS4⟩ := hSw; go_simp; (try simp only [E0.out]); (try simp only [E1.out]); (try simp only [E2.out]); (try simp only [E3.out]); (try simp only [E4.out]); try with_reducible rfl
  try go_simp
  refine wpAnyH_take (i := 10) (v := ?_) rfl (by kernel_rfl) (by kernel_rfl) (by kernel_rfl) (fun _ _ _ h => h) (Or.inl ⟨by rfl, ?_⟩) hHeld ?_
  rotate_left
  · intro wS hSw; obtain ⟨hS0, hS1, hS2, hS3, hS4⟩ := hSw; go_simp; (try simp only [E0.out]); (try simp only [E1.out]); (try simp only [E2.out]); (try simp only [E3.out]); (try simp only [E4.out]); try with_reducible rfl
  try go_simp
  refine wpAnyH_take (i := 11) (v := ?_) rfl (by kernel_rfl) (by kernel_rfl) (by kernel_rfl) (fun _ _ _ h => h) (Or.inl ⟨by rfl, ?_⟩) hHeld ?_
  rotate_left
  · intro wS hSw; obtain ⟨hS0, hS1, hS2, hS3, hS4⟩ := hSw; go_simp; (try simp only [E0.out]); (try simp only [E1.out]); (try simp only [E2.out]); (try simp only [E3.out]); (try simp only [E4.out]); try with_reducible rfl
  try go_simp
  refine wpAnyH_take (i := 12) (v := ?_) rfl (by kernel_rfl) (by kernel_rfl) (by kernel_rfl) (fun _ _ _ h => h) (Or.inl ⟨by rfl, ?_⟩) hHeld ?_
  rotate_left
  · intro wS hSw; obtain ⟨hS0, hS1, hS2, hS3, hS4⟩ := hSw; go_simp; (try simp only [E0.out]); (try simp only [E1.out]); (try simp only [E2.out]); (try simp only [E3.out]); (try simp only [E4.out]); try with_reducible rfl
  try go_simp
  refine wpAnyH_take (i := 13) (v := ?_) rfl (by kernel_rfl) (by kernel_rfl) (by kernel_rfl) (fun _ _ _ h => h) (Or.inl ⟨by rfl, ?_⟩) hHeld ?_
  rotate_left
  · intro wS hSw; obtain ⟨hS0, hS1, hS2, hS3, hS4⟩ := hSw; go_simp; (try simp only [E0.out]); (try simp only [E1.out]); (try simp only [E2.out]); (try simp only [E3.out]); (try simp only [E4.out]); try with_reducible rfl
  try go_simp
  refine wpAnyH_take (i := 14) (v := ?_) rfl (by kernel_rfl) (by kernel_rfl) (by kernel_rfl) (fun _ _ _ h => h) (Or.inl ⟨by rfl, ?_⟩) hHeld ?_
  rotate_left
  · intro wS hSw; obtain ⟨hS0, hS1, hS2, hS3, hS4⟩ := hSw; go_simp; (try simp only [E0.out]); (try simp only [E1.out]); (try simp only [E2.out]); (try simp only [E3.out]); (try simp only [E4.out]); try with_reducible rfl
  try go_simp
  refine wpAnyH_take (i := 15) (v := ?_) rfl (by kernel_rfl) (by kernel_rfl) (by kernel_rfl) (fun _ _ _ h => h) (Or.inl ⟨by rfl, ?_⟩) hHeld ?_
  rotate_left
  · intro wS hSw; obtain ⟨hS0, hS1, hS2, hS3, hS4⟩ := hSw; go_simp; (try simp only [E0.out]); (try simp only [E1.out]); (try simp only [E2.out]); (try simp only [E3.out]); (try simp only [E4.out]); try with_reducible rfl
  try go_simp
  refine wpAnyH_take (i := 17) (v := ?_) rfl (by kernel_rfl) (by kernel_rfl) (by kernel_rfl) (fun _ _ _ h => h) (Or.inl ⟨by rfl, ?_⟩) hHeld ?_
  rotate_left
  · intro wS hSw; obtain ⟨hS0, hS1, hS2, hS3, hS4⟩ := hSw; go_simp; (try simp only [E0.out]); (try simp only [E1.out]); (try simp only [E2.out]); (try simp only [E3.out]); (try simp only [E4.out]); try with_reducible rfl
  try go_simp
  refine wpAnyH_take (i := 18) (v := ?_) rfl (by kernel_rfl) (by kernel_rfl) (by kernel_rfl) (fun _ _ _ h => h) (Or.inl ⟨by rfl, ?_⟩) hHeld ?_
  rotate_left
  · intro wS hSw; obtain ⟨hS0, hS1, hS2, hS3, hS4⟩ := hSw; go_simp; (try simp only [E0.out]); (try simp only [E1.out]); (try simp only [E2.out]); (try simp only [E3.out]); (try simp only [E4.out]); try with_reducible rfl
  try go_simp
  refine wpAnyH_take (i := 19) (v := ?_) rfl (by kernel_rfl) (by kernel_rfl) (by kernel_rfl) (fun _ _ _ h => h) (Or.inl ⟨by rfl, ?_⟩) hHeld ?_
  rotate_left
  · intro wS hSw; obtain ⟨hS0, hS1, hS2, hS3, hS4⟩ := hSw; go_simp; (try simp only [E0.out]); (try simp only [E1.out]); (try simp only [E2.out]); (try simp only [E3.out]); (try simp only [E4.out]); try with_reducible rfl
  try go_simp
  refine wpAnyH_take (i := 20) (v := ?_) rfl (by kernel_rfl) (by kernel_rfl) (by kernel_rfl) (fun _ _ _ h => h) (Or.inl ⟨by rfl, ?_⟩) hHeld ?_
  rotate_left
  · intro wS hSw; obtain ⟨hS0, hS1, hS2, hS3, hS4⟩ := hSw; go_simp; (try simp only [E0.out]); (try simp only [E1.out]); (try simp only [E2.out]); (try simp only [E3.out]); (try simp only [E4.out]); try with_reducible rfl
  try go_simp
  refine wpAnyH_take (i := 21) (v := ?_) rfl (by kernel_rfl) (by kernel_rfl) (by kernel_rfl) (fun _ _ _ h => h) (Or.inl ⟨by rfl, ?_⟩) hHeld ?_
  rotate_left
  · intro wS hSw; obtain ⟨hS0, hS1, hS2, hS3, hS4⟩ := hSw; go_simp; (try simp only [E0.out]); (try simp only [E1.out]); (try simp only [E2.out]); (try simp only [E3.out]); (try simp only [E4.out]); try with_reducible rfl
  try go_simp
  refine wpAnyH_take (i := 22) (v := ?_) rfl (by kernel_rfl) (by kernel_rfl) (by kernel_rfl) (fun _ _ _ h => h) (Or.inl ⟨by rfl, ?_⟩) hHeld ?_
  rotate_left
  · intro wS hSw; obtain ⟨hS0, hS1, hS2, hS3, hS4⟩ := hSw; go_simp; (try simp only [E0.out]); (try simp only [E1.out]); (try simp only [E2.out]); (try simp only [E3.out]); (try simp only [E4.out]); try with_reducible rfl
  try go_simp
  refine wpAnyH_take (i := 23) (v := ?_) rfl (by kernel_rfl) (by kernel_rfl) (by kernel_rfl) (fun _ _ _ h => h) (Or.inl ⟨by rfl, ?_⟩) hHeld ?_
  rotate_left
  · intro wS hSw; obtain ⟨hS0, hS1, hS2, hS3, hS4⟩ := hSw; go_simp; (try simp only [E0.out]); (try simp only [E1.out]); (try simp only [E2.out]); (try simp only [E3.out]); (try simp only [E4.out]); try with_reducible rfl
  try go_simp
  refine wpAnyH_take (i := 24) (v := ?_) rfl (by kernel_rfl) (by kernel_rfl) (by kernel_rfl) (fun _ _ _ h => h) (Or.inl ⟨by rfl, ?_⟩) hHeld ?_
  rotate_left
  · intro wS hSw; obtain ⟨hS0, hS1, hS2, hS3, hS4⟩ := hSw; go_simp; (try simp only [E0.out]); (try simp only [E1.out]); (try simp only [E2.out]); (try simp only [E3.out]); (try simp only [E4.out]); try with_reducible rfl
  try go_simp
  refine wpAnyH_take (i := 25) (v := ?_) rfl (by kernel_rfl) (by kernel_rfl) (by kernel_rfl) (fun _ _ _ h => h) (Or.inl ⟨by rfl, ?_⟩) hHeld ?_
  rotate_left
  · intro wS hSw; obtain ⟨hS0, hS1, hS2, hS3, hS4⟩ := hSw; go_simp; (try simp only [E0.out]); (try simp only [E1.out]); (try simp only [E2.out]); (try simp only [E3.out]); (try simp only [E4.out]); try with_reducible rfl
  try go_simp
  refine wpAnyH_take (i := 26) (v := ?_) rfl (by kernel_rfl) (by kernel_rfl) (by kernel_rfl) (fun _ _ _ h => h) (Or.inl ⟨by rfl, ?_⟩) hHeld ?_
  rotate_left
  · intro wS hSw; obtain ⟨hS0, hS1, hS2, hS3, hS4⟩ := hSw; go_simp; (try simp only [E0.out]); (try simp only [E1.out]); (try simp only [E2.out]); (try simp only [E3.out]); (try simp only [E4.out]); try with_reducible rfl
  try go_simp
  refine wpAnyH_ready (rs := [16]) (by kernel_rfl) (by simp) ?_
  refine AllReadyH.cons rfl (fun K hK => ?_) AllReadyH.nil
  go_simp
  refine (outside_any (an * bd + bn * ad) (ad * bd) _ (by omega) (by omega) hpos (by omega)).mono ?_
  rw [HO.out]
  rintro e x1 ⟨rfl, rfl⟩
  refine hK.out _ _ ?_ (fun hHeld => ?_)
  · exact ⟨by first | assumption | (go_simp; done), by first | assumption | (go_simp; done), by first | assumption | (go_simp; done), by first | assumption | (go_simp; done), by (repeat (first | assumption | exact Below.refl _ _ | refine below_set ?_ (by first | omega | (simp; done) | (simp; omega)) _ | refine below_drawn ?_ | refine below_drawnN ?_ _ | refine below_new ?_ _))⟩
  clear hK K
  try go_simp
  refine wpAnyH_ready (rs := [27]) (by kernel_rfl) (by simp) ?_
  refine AllReadyH.cons rfl (fun K hK => ?_) AllReadyH.nil
  go_simp
  refine (outside_any (an * bn) (ad * bd) _ (by omega) (by omega) hpos (by omega)).mono ?_
  rw [HP.out]
  rintro e x1 ⟨rfl, rfl⟩
  refine hK.out _ _ ?_ (fun hHeld => ?_)
  · exact ⟨by first | assumption | (go_simp; done), by first | assumption | (go_simp; done), by first | assumption | (go_simp; done), by first | assumption | (go_simp; done), by (repeat (first | assumption | exact Below.refl _ _ | refine below_set ?_ (by first | omega | (simp; done) | (simp; omega)) _ | refine below_drawn ?_ | refine below_drawnN ?_ _ | refine below_new ?_ _))⟩
  clear hK K
  try go_simp
  refine wpAnyH_take (i := 28) (v := ?_) rfl (by kernel_rfl) (by kernel_rfl) (by kernel_rfl) (fun _ _ _ h => h) (Or.inl ⟨by rfl, ?_⟩) hHeld ?_
  rotate_left
  · intro wS hSw; obtain ⟨hS0, hS1, hS2, hS3, hS4⟩ := hSw; go_simp; (try simp only [E0.out]); (try simp only [E1.out]); (try simp only [E2.out]); (try simp only [E3.out]); (try simp only [E4.out]); try with_reducible rfl
  try go_simp
  refine wpAnyH_take (i := 29) (v := ?_) rfl (by kernel_rfl) (by kernel_rfl) (by kernel_rfl) (fun _ _ _ h => h) (Or.inl ⟨by rfl, ?_⟩) hHeld ?_
  rotate_left
  · intro wS hSw; obtain ⟨hS0, hS1, hS2, hS3, hS4⟩ := hSw; go_simp; (try simp only [E0.out]); (try simp only [E1.out]); (try simp only [E2.out]); (try simp only [E3.out]); (try simp only [E4.out]); try with_reducible rfl
  try go_simp
  refine wpAnyH_done (by kernel_rfl) ?_ _
  obtain ⟨_, _, _, _, hBW⟩ := hHeld
  go_wp2
  go_ret
  exact ⟨rfl, hBW⟩
set_option maxHeartbeats 4000000 in
set_option maxRecDepth 100000 in
theorem range_00 (an ad bn bd sx sy ux uy : Int) (w : World) (ha : Rt.valid an ad = true) (hb : Rt.valid bn bd = true) (hadd : Rt.add an ad bn bd = (sx, sy, 0)) (hmul : Rt.mul an ad bn bd = (ux, uy, 0)) (ho : Rt.outside (an * bd + bn * ad) (ad * bd) = false) (hp : Rt.outside (an * bn) (ad * bd) = false) : Calls Try.prog 9 #[.agg #[.int .i64 an, .int .i64 ad], .agg #[.int .i64 bn, .int .i64 bd]] w fun e w' => e = .returned (.bool true) ∧ Below w.heap.size w w' := by
  obtain ⟨a0, a1, a2, a3⟩ := Rt.valid_bd ha
  obtain ⟨b0, b1, b2, b3⟩ := Rt.valid_bd hb
  have hpos : 0 < ad * bd := Int.mul_pos (by omega) (by omega)
  obtain ⟨m0, n0⟩ := prod_in (a := an) (b := bd) (by omega) (by omega) (by omega) (by omega)
  obtain ⟨m1, n1⟩ := prod_in (a := bn) (b := ad) (by omega) (by omega) (by omega) (by omega)
  obtain ⟨m2, n2⟩ := prod_in (a := ad) (b := bd) (by omega) (by omega) (by omega) (by omega)
  obtain ⟨m3, n3⟩ := prod_in (a := an) (b := bn) (by omega) (by omega) (by omega) (by omega)
  have e0 : IntKind.i64.wrap (an * bd) = an * bd := IntWalk.i64_in _ ⟨by omega, by omega⟩
  have E0 := Lib.hid e0
  have e1 : IntKind.i64.wrap (bn * ad) = bn * ad := IntWalk.i64_in _ ⟨by omega, by omega⟩
  have E1 := Lib.hid e1
  have e2 : IntKind.i64.wrap (ad * bd) = ad * bd := IntWalk.i64_in _ ⟨by omega, by omega⟩
  have E2 := Lib.hid e2
  have e3 : IntKind.i64.wrap (an * bn) = an * bn := IntWalk.i64_in _ ⟨by omega, by omega⟩
  have E3 := Lib.hid e3
  have e4 : IntKind.i64.wrap (an * bd + bn * ad) = an * bd + bn * ad := IntWalk.i64_in _ ⟨by omega, by omega⟩
  have E4 := Lib.hid e4
  clear e0 e1 e2 e3 e4
  have HA := Lib.hid ha
  have HB := Lib.hid hb
  have HADD := Lib.hid hadd
  have HMUL := Lib.hid hmul
  have HO := Lib.hid ho
  have HP := Lib.hid hp
  clear ha hb hadd hmul ho hp
  go_enter Try.func9, Try.ntmps9
  go_wp2_with fail
  refine (head_ok _).mono ?_
  rintro e w1 ⟨rfl, hb_w1⟩
  have hB_w1 : Below w.heap.size w w1 := below_on (by (repeat (first | assumption | exact Below.refl _ _ | refine below_set ?_ (by first | omega | (simp; done) | (simp; omega)) _ | refine below_drawn ?_ | refine below_drawnN ?_ _ | refine below_new ?_ _))) hb_w1
  have hz_w1 := hb_w1.size
  try simp only [World.size_setCell] at hz_w1
  try simp only [World.size_drew] at hz_w1
  try simp only [World.size_drewN] at hz_w1
  try simp only [World.size_alloc] at hz_w1
  try simp only [World.size_setCell] at hz_w1
  try simp only [World.size_drew] at hz_w1
  try simp only [World.size_drewN] at hz_w1
  try simp only [World.size_alloc] at hz_w1
  have hl0_w1 : w.heap.size < w1.heap.size := by omega
  have hl1_w1 : w.heap.size + 1 < w1.heap.size := by omega
  have a0_w1 : w1.cell? ⟨w.heap.size, 0, none⟩ = some (.int .i64 an) := below_cell_of hb_w1 (by first | (go_simp; done) | (refine below_cell_of (w := w) ?_ (by first | assumption | (go_simp; done)); (repeat (first | assumption | exact Below.refl _ _ | refine below_set ?_ (by first | omega | (simp; done) | (simp; omega)) _ | refine below_drawn ?_ | refine below_drawnN ?_ _ | refine below_new ?_ _))))
  have a1_w1 : w1.cell? ⟨w.heap.size, 1, none⟩ = some (.int .i64 ad) := below_cell_of hb_w1 (by first | (go_simp; done) | (refine below_cell_of (w := w) ?_ (by first | assumption | (go_simp; done)); (repeat (first | assumption | exact Below.refl _ _ | refine below_set ?_ (by first | omega | (simp; done) | (simp; omega)) _ | refine below_drawn ?_ | refine below_drawnN ?_ _ | refine below_new ?_ _))))
  have b0_w1 : w1.cell? ⟨w.heap.size + 1, 0, none⟩ = some (.int .i64 bn) := below_cell_of hb_w1 (by first | (go_simp; done) | (refine below_cell_of (w := w) ?_ (by first | assumption | (go_simp; done)); (repeat (first | assumption | exact Below.refl _ _ | refine below_set ?_ (by first | omega | (simp; done) | (simp; omega)) _ | refine below_drawn ?_ | refine below_drawnN ?_ _ | refine below_new ?_ _))))
  have b1_w1 : w1.cell? ⟨w.heap.size + 1, 1, none⟩ = some (.int .i64 bd) := below_cell_of hb_w1 (by first | (go_simp; done) | (refine below_cell_of (w := w) ?_ (by first | assumption | (go_simp; done)); (repeat (first | assumption | exact Below.refl _ _ | refine below_set ?_ (by first | omega | (simp; done) | (simp; omega)) _ | refine below_drawn ?_ | refine below_drawnN ?_ _ | refine below_new ?_ _))))
  go_wp2_with fail
  refine (rvalid_any an ad _).mono ?_
  rw [HA.out]
  rintro e w2 ⟨rfl, hb_w2⟩
  have hB_w2 : Below w.heap.size w w2 := below_on (by first | ((repeat (first | assumption | exact Below.refl _ _ | refine below_set ?_ (by first | omega | (simp; done) | (simp; omega)) _ | refine below_drawn ?_ | refine below_drawnN ?_ _ | refine below_new ?_ _)); done) | (refine below_on hB_w1 ?_; (repeat (first | assumption | exact Below.refl _ _ | refine below_set ?_ (by first | omega | (simp; done) | (simp; omega)) _ | refine below_drawn ?_ | refine below_drawnN ?_ _ | refine below_new ?_ _)))) hb_w2
  have hz_w2 := hb_w2.size
  try simp only [World.size_setCell] at hz_w2
  try simp only [World.size_drew] at hz_w2
  try simp only [World.size_drewN] at hz_w2
  try simp only [World.size_alloc] at hz_w2
  try simp only [World.size_setCell] at hz_w2
  try simp only [World.size_drew] at hz_w2
  try simp only [World.size_drewN] at hz_w2
  try simp only [World.size_alloc] at hz_w2
  have hl0_w2 : w.heap.size < w2.heap.size := by omega
  have hl1_w2 : w.heap.size + 1 < w2.heap.size := by omega
  have a0_w2 : w2.cell? ⟨w.heap.size, 0, none⟩ = some (.int .i64 an) := below_cell_of hb_w2 (by first | (go_simp; done) | (refine below_cell_of (w := w1) ?_ (by first | assumption | (go_simp; done)); (repeat (first | assumption | exact Below.refl _ _ | refine below_set ?_ (by first | omega | (simp; done) | (simp; omega)) _ | refine below_drawn ?_ | refine below_drawnN ?_ _ | refine below_new ?_ _))))
  have a1_w2 : w2.cell? ⟨w.heap.size, 1, none⟩ = some (.int .i64 ad) := below_cell_of hb_w2 (by first | (go_simp; done) | (refine below_cell_of (w := w1) ?_ (by first | assumption | (go_simp; done)); (repeat (first | assumption | exact Below.refl _ _ | refine below_set ?_ (by first | omega | (simp; done) | (simp; omega)) _ | refine below_drawn ?_ | refine below_drawnN ?_ _ | refine below_new ?_ _))))
  have b0_w2 : w2.cell? ⟨w.heap.size + 1, 0, none⟩ = some (.int .i64 bn) := below_cell_of hb_w2 (by first | (go_simp; done) | (refine below_cell_of (w := w1) ?_ (by first | assumption | (go_simp; done)); (repeat (first | assumption | exact Below.refl _ _ | refine below_set ?_ (by first | omega | (simp; done) | (simp; omega)) _ | refine below_drawn ?_ | refine below_drawnN ?_ _ | refine below_new ?_ _))))
  have b1_w2 : w2.cell? ⟨w.heap.size + 1, 1, none⟩ = some (.int .i64 bd) := below_cell_of hb_w2 (by first | (go_simp; done) | (refine below_cell_of (w := w1) ?_ (by first | assumption | (go_simp; done)); (repeat (first | assumption | exact Below.refl _ _ | refine below_set ?_ (by first | omega | (simp; done) | (simp; omega)) _ | refine below_drawn ?_ | refine below_drawnN ?_ _ | refine below_new ?_ _))))
  go_wp2_with fail
  refine (rvalid_any bn bd _).mono ?_
  rw [HB.out]
  rintro e w3 ⟨rfl, hb_w3⟩
  have hB_w3 : Below w.heap.size w w3 := below_on (by first | ((repeat (first | assumption | exact Below.refl _ _ | refine below_set ?_ (by first | omega | (simp; done) | (simp; omega)) _ | refine below_drawn ?_ | refine below_drawnN ?_ _ | refine below_new ?_ _)); done) | (refine below_on hB_w2 ?_; (repeat (first | assumption | exact Below.refl _ _ | refine below_set ?_ (by first | omega | (simp; done) | (simp; omega)) _ | refine below_drawn ?_ | refine below_drawnN ?_ _ | refine below_new ?_ _)))) hb_w3
  have hz_w3 := hb_w3.size
  try simp only [World.size_setCell] at hz_w3
  try simp only [World.size_drew] at hz_w3
  try simp only [World.size_drewN] at hz_w3
  try simp only [World.size_alloc] at hz_w3
  try simp only [World.size_setCell] at hz_w3
  try simp only [World.size_drew] at hz_w3
  try simp only [World.size_drewN] at hz_w3
  try simp only [World.size_alloc] at hz_w3
  have hl0_w3 : w.heap.size < w3.heap.size := by omega
  have hl1_w3 : w.heap.size + 1 < w3.heap.size := by omega
  have a0_w3 : w3.cell? ⟨w.heap.size, 0, none⟩ = some (.int .i64 an) := below_cell_of hb_w3 (by first | (go_simp; done) | (refine below_cell_of (w := w2) ?_ (by first | assumption | (go_simp; done)); (repeat (first | assumption | exact Below.refl _ _ | refine below_set ?_ (by first | omega | (simp; done) | (simp; omega)) _ | refine below_drawn ?_ | refine below_drawnN ?_ _ | refine below_new ?_ _))))
  have a1_w3 : w3.cell? ⟨w.heap.size, 1, none⟩ = some (.int .i64 ad) := below_cell_of hb_w3 (by first | (go_simp; done) | (refine below_cell_of (w := w2) ?_ (by first | assumption | (go_simp; done)); (repeat (first | assumption | exact Below.refl _ _ | refine below_set ?_ (by first | omega | (simp; done) | (simp; omega)) _ | refine below_drawn ?_ | refine below_drawnN ?_ _ | refine below_new ?_ _))))
  have b0_w3 : w3.cell? ⟨w.heap.size + 1, 0, none⟩ = some (.int .i64 bn) := below_cell_of hb_w3 (by first | (go_simp; done) | (refine below_cell_of (w := w2) ?_ (by first | assumption | (go_simp; done)); (repeat (first | assumption | exact Below.refl _ _ | refine below_set ?_ (by first | omega | (simp; done) | (simp; omega)) _ | refine below_drawn ?_ | refine below_drawnN ?_ _ | refine below_new ?_ _))))
  have b1_w3 : w3.cell? ⟨w.heap.size + 1, 1, none⟩ = some (.int .i64 bd) := below_cell_of hb_w3 (by first | (go_simp; done) | (refine below_cell_of (w := w2) ?_ (by first | assumption | (go_simp; done)); (repeat (first | assumption | exact Below.refl _ _ | refine below_set ?_ (by first | omega | (simp; done) | (simp; omega)) _ | refine below_drawn ?_ | refine below_drawnN ?_ _ | refine below_new ?_ _))))
  go_wp2_with fail
  refine (add_any an ad bn bd _ (by omega) (by omega)).mono ?_
  rw [HADD.out]
  rintro e w4 ⟨rfl, hb_w4⟩
  have hB_w4 : Below w.heap.size w w4 := below_on (by first | ((repeat (first | assumption | exact Below.refl _ _ | refine below_set ?_ (by first | omega | (simp; done) | (simp; omega)) _ | refine below_drawn ?_ | refine below_drawnN ?_ _ | refine below_new ?_ _)); done) | (refine below_on hB_w3 ?_; (repeat (first | assumption | exact Below.refl _ _ | refine below_set ?_ (by first | omega | (simp; done) | (simp; omega)) _ | refine below_drawn ?_ | refine below_drawnN ?_ _ | refine below_new ?_ _)))) hb_w4
  have hz_w4 := hb_w4.size
  try simp only [World.size_setCell] at hz_w4
  try simp only [World.size_drew] at hz_w4
  try simp only [World.size_drewN] at hz_w4
  try simp only [World.size_alloc] at hz_w4
  try simp only [World.size_setCell] at hz_w4
  try simp only [World.size_drew] at hz_w4
  try simp only [World.size_drewN] at hz_w4
  try simp only [World.size_alloc] at hz_w4
  have hl0_w4 : w.heap.size < w4.heap.size := by omega
  have hl1_w4 : w.heap.size + 1 < w4.heap.size := by omega
  have a0_w4 : w4.cell? ⟨w.heap.size, 0, none⟩ = some (.int .i64 an) := below_cell_of hb_w4 (by first | (go_simp; done) | (refine below_cell_of (w := w3) ?_ (by first | assumption | (go_simp; done)); (repeat (first | assumption | exact Below.refl _ _ | refine below_set ?_ (by first | omega | (simp; done) | (simp; omega)) _ | refine below_drawn ?_ | refine below_drawnN ?_ _ | refine below_new ?_ _))))
  have a1_w4 : w4.cell? ⟨w.heap.size, 1, none⟩ = some (.int .i64 ad) := below_cell_of hb_w4 (by first | (go_simp; done) | (refine below_cell_of (w := w3) ?_ (by first | assumption | (go_simp; done)); (repeat (first | assumption | exact Below.refl _ _ | refine below_set ?_ (by first | omega | (simp; done) | (simp; omega)) _ | refine below_drawn ?_ | refine below_drawnN ?_ _ | refine below_new ?_ _))))
  have b0_w4 : w4.cell? ⟨w.heap.size + 1, 0, none⟩ = some (.int .i64 bn) := below_cell_of hb_w4 (by first | (go_simp; done) | (refine below_cell_of (w := w3) ?_ (by first | assumption | (go_simp; done)); (repeat (first | assumption | exact Below.refl _ _ | refine below_set ?_ (by first | omega | (simp; done) | (simp; omega)) _ | refine below_drawn ?_ | refine below_drawnN ?_ _ | refine below_new ?_ _))))
  have b1_w4 : w4.cell? ⟨w.heap.size + 1, 1, none⟩ = some (.int .i64 bd) := below_cell_of hb_w4 (by first | (go_simp; done) | (refine below_cell_of (w := w3) ?_ (by first | assumption | (go_simp; done)); (repeat (first | assumption | exact Below.refl _ _ | refine below_set ?_ (by first | omega | (simp; done) | (simp; omega)) _ | refine below_drawn ?_ | refine below_drawnN ?_ _ | refine below_new ?_ _))))
  go_wp2_with fail
  refine (mul_any an ad bn bd _ (by omega) (by omega)).mono ?_
  rw [HMUL.out]
  rintro e w5 ⟨rfl, hb_w5⟩
  have hB_w5 : Below w.heap.size w w5 := below_on (by first | ((repeat (first | assumption | exact Below.refl _ _ | refine below_set ?_ (by first | omega | (simp; done) | (simp; omega)) _ | refine below_drawn ?_ | refine below_drawnN ?_ _ | refine below_new ?_ _)); done) | (refine below_on hB_w4 ?_; (repeat (first | assumption | exact Below.refl _ _ | refine below_set ?_ (by first | omega | (simp; done) | (simp; omega)) _ | refine below_drawn ?_ | refine below_drawnN ?_ _ | refine below_new ?_ _)))) hb_w5
  have hz_w5 := hb_w5.size
  try simp only [World.size_setCell] at hz_w5
  try simp only [World.size_drew] at hz_w5
  try simp only [World.size_drewN] at hz_w5
  try simp only [World.size_alloc] at hz_w5
  try simp only [World.size_setCell] at hz_w5
  try simp only [World.size_drew] at hz_w5
  try simp only [World.size_drewN] at hz_w5
  try simp only [World.size_alloc] at hz_w5
  have hl0_w5 : w.heap.size < w5.heap.size := by omega
  have hl1_w5 : w.heap.size + 1 < w5.heap.size := by omega
  have a0_w5 : w5.cell? ⟨w.heap.size, 0, none⟩ = some (.int .i64 an) := below_cell_of hb_w5 (by first | (go_simp; done) | (refine below_cell_of (w := w4) ?_ (by first | assumption | (go_simp; done)); (repeat (first | assumption | exact Below.refl _ _ | refine below_set ?_ (by first | omega | (simp; done) | (simp; omega)) _ | refine below_drawn ?_ | refine below_drawnN ?_ _ | refine below_new ?_ _))))
  have a1_w5 : w5.cell? ⟨w.heap.size, 1, none⟩ = some (.int .i64 ad) := below_cell_of hb_w5 (by first | (go_simp; done) | (refine below_cell_of (w := w4) ?_ (by first | assumption | (go_simp; done)); (repeat (first | assumption | exact Below.refl _ _ | refine below_set ?_ (by first | omega | (simp; done) | (simp; omega)) _ | refine below_drawn ?_ | refine below_drawnN ?_ _ | refine below_new ?_ _))))
  have b0_w5 : w5.cell? ⟨w.heap.size + 1, 0, none⟩ = some (.int .i64 bn) := below_cell_of hb_w5 (by first | (go_simp; done) | (refine below_cell_of (w := w4) ?_ (by first | assumption | (go_simp; done)); (repeat (first | assumption | exact Below.refl _ _ | refine below_set ?_ (by first | omega | (simp; done) | (simp; omega)) _ | refine below_drawn ?_ | refine below_drawnN ?_ _ | refine below_new ?_ _))))
  have b1_w5 : w5.cell? ⟨w.heap.size + 1, 1, none⟩ = some (.int .i64 bd) := below_cell_of hb_w5 (by first | (go_simp; done) | (refine below_cell_of (w := w4) ?_ (by first | assumption | (go_simp; done)); (repeat (first | assumption | exact Below.refl _ _ | refine below_set ?_ (by first | omega | (simp; done) | (simp; omega)) _ | refine below_drawn ?_ | refine below_drawnN ?_ _ | refine below_new ?_ _))))
  go_wp2
  refine wp_region_held_drew (S := (fun W => W.cell? ⟨w.heap.size, 0, none⟩ = some (.int .i64 an) ∧ W.cell? ⟨w.heap.size, 1, none⟩ = some (.int .i64 ad) ∧ W.cell? ⟨w.heap.size + 1, 0, none⟩ = some (.int .i64 bn) ∧ W.cell? ⟨w.heap.size + 1, 1, none⟩ = some (.int .i64 bd) ∧ Below w.heap.size w W)) (by kernel_rfl) ?_ (fun hHeld => ?_)
  · exact ⟨by first | assumption | (go_simp; done), by first | assumption | (go_simp; done), by first | assumption | (go_simp; done), by first | assumption | (go_simp; done), by (repeat (first | assumption | exact Below.refl _ _ | refine below_set ?_ (by first | omega | (simp; done) | (simp; omega)) _ | refine below_drawn ?_ | refine below_drawnN ?_ _ | refine below_new ?_ _))⟩
  refine wpAnyH_take (i := 0) (v := ?_) rfl (by kernel_rfl) (by kernel_rfl) (by kernel_rfl) (fun _ _ _ h => h) (Or.inl ⟨by rfl, ?_⟩) hHeld ?_
  rotate_left
  · intro wS hSw; obtain ⟨hS0, hS1, hS2, hS3, hS4⟩ := hSw; go_simp; (try simp only [E0.out]); (try simp only [E1.out]); (try simp only [E2.out]); (try simp only [E3.out]); (try simp only [E4.out]); try with_reducible rfl
  try go_simp
  refine wpAnyH_take (i := 1) (v := ?_) rfl (by kernel_rfl) (by kernel_rfl) (by kernel_rfl) (fun _ _ _ h => h) (Or.inl ⟨by rfl, ?_⟩) hHeld ?_
  rotate_left
  · intro wS hSw; obtain ⟨hS0, hS1, hS2, hS3, hS4⟩ := hSw; go_simp; (try simp only [E0.out]); (try simp only [E1.out]); (try simp only [E2.out]); (try simp only [E3.out]); (try simp only [E4.out]); try with_reducible rfl
  try go_simp
  refine wpAnyH_take (i := 2) (v := ?_) rfl (by kernel_rfl) (by kernel_rfl) (by kernel_rfl) (fun _ _ _ h => h) (Or.inl ⟨by rfl, ?_⟩) hHeld ?_
  rotate_left
  · intro wS hSw; obtain ⟨hS0, hS1, hS2, hS3, hS4⟩ := hSw; go_simp; (try simp only [E0.out]); (try simp only [E1.out]); (try simp only [E2.out]); (try simp only [E3.out]); (try simp only [E4.out]); try with_reducible rfl
  try go_simp
  refine wpAnyH_take (i := 3) (v := ?_) rfl (by kernel_rfl) (by kernel_rfl) (by kernel_rfl) (fun _ _ _ h => h) (Or.inl ⟨by rfl, ?_⟩) hHeld ?_
  rotate_left
  · intro wS hSw; obtain ⟨hS0, hS1, hS2, hS3, hS4⟩ := hSw; go_simp; (try simp only [E0.out]); (try simp only [E1.out]); (try simp only [E2.out]); (try simp only [E3.out]); (try simp only [E4.out]); try with_reducible rfl
  try go_simp
  refine wpAnyH_take (i := 4) (v := ?_) rfl (by kernel_rfl) (by kernel_rfl) (by kernel_rfl) (fun _ _ _ h => h) (Or.inl ⟨by rfl, ?_⟩) hHeld ?_
  rotate_left
  · intro wS hSw; obtain ⟨hS0, hS1, hS2, hS3, hS4⟩ := hSw; go_simp; (try simp only [E0.out]); (try simp only [E1.out]); (try simp only [E2.out]); (try simp only [E3.out]); (try simp only [E4.out]); try with_reducible rfl
  try go_simp
  refine wpAnyH_take (i := 5) (v := ?_) rfl (by kernel_rfl) (by kernel_rfl) (by kernel_rfl) (fun _ _ _ h => h) (Or.inl ⟨by rfl, ?_⟩) hHeld ?_
  rotate_left
  · intro wS hSw; obtain ⟨hS0, hS1, hS2, hS3, hS4⟩ := hSw; go_simp; (try simp only [E0.out]); (try simp only [E1.out]); (try simp only [E2.out]); (try simp only [E3.out]); (try simp only [E4.out]); try with_reducible rfl
  try go_simp
  refine wpAnyH_take (i := 6) (v := ?_) rfl (by kernel_rfl) (by kernel_rfl) (by kernel_rfl) (fun _ _ _ h => h) (Or.inl ⟨by rfl, ?_⟩) hHeld ?_
  rotate_left
  · intro wS hSw; obtain ⟨hS0, hS1, hS2, hS3, hS4⟩ := hSw; go_simp; (try simp only [E0.out]); (try simp only [E1.out]); (try simp only [E2.out]); (try simp only [E3.out]); (try simp only [E4.out]); try with_reducible rfl
  try go_simp
  refine wpAnyH_take (i := 7) (v := ?_) rfl (by kernel_rfl) (by kernel_rfl) (by kernel_rfl) (fun _ _ _ h => h) (Or.inl ⟨by rfl, ?_⟩) hHeld ?_
  rotate_left
  · intro wS hSw; obtain ⟨hS0, hS1, hS2, hS3, hS4⟩ := hSw; go_simp; (try simp only [E0.out]); (try simp only [E1.out]); (try simp only [E2.out]); (try simp only [E3.out]); (try simp only [E4.out]); try with_reducible rfl
  try go_simp
  refine wpAnyH_take (i := 8) (v := ?_) rfl (by kernel_rfl) (by kernel_rfl) (by kernel_rfl) (fun _ _ _ h => h) (Or.inl ⟨by rfl, ?_⟩) hHeld ?_
  rotate_left
  · intro wS hSw; obtain ⟨hS0, hS1, hS2, hS3, hS4⟩ := hSw; go_simp; (try simp only [E0.out]); (try simp only [E1.out]); (try simp only [E2.out]); (try simp only [E3.out]); (try simp only [E4.out]); try with_reducible rfl
  try go_simp
  refine wpAnyH_take (i := 9) (v := ?_) rfl (by kernel_rfl) (by kernel_rfl) (by kernel_rfl) (fun _ _ _ h => h) (Or.inl ⟨by rfl, ?_⟩) hHeld ?_
  rotate_left
  · intro wS hSw; obtain ⟨hS0, hS1, hS2, hS3, hS4⟩ := hSw; go_simp; (try simp only [E0.out]); (try simp only [E1.out]); (try simp only [E2.out]); (try simp only [E3.out]); (try simp only [E4.out]); try with_reducible rfl
  try go_simp
  refine wpAnyH_take (i := 10) (v := ?_) rfl (by kernel_rfl) (by kernel_rfl) (by kernel_rfl) (fun _ _ _ h => h) (Or.inl ⟨by rfl, ?_⟩) hHeld ?_
  rotate_left
  · intro wS hSw; obtain ⟨hS0, hS1, hS2, hS3, hS4⟩ := hSw; go_simp; (try simp only [E0.out]); (try simp only [E1.out]); (try simp only [E2.out]); (try simp only [E3.out]); (try simp only [E4.out]); try with_reducible rfl
  try go_simp
  refine wpAnyH_take (i := 11) (v := ?_) rfl (by kernel_rfl) (by kernel_rfl) (by kernel_rfl) (fun _ _ _ h => h) (Or.inl ⟨by rfl, ?_⟩) hHeld ?_
  rotate_left
  · intro wS hSw; obtain ⟨hS0, hS1, hS2, hS3, hS4⟩ := hSw; go_simp; (try simp only [E0.out]); (try simp only [E1.out]); (try simp only [E2.out]); (try simp only [E3.out]); (try simp only [E4.out]); try with_reducible rfl
  try go_simp
  refine wpAnyH_take (i := 12) (v := ?_) rfl (by kernel_rfl) (by kernel_rfl) (by kernel_rfl) (fun _ _ _ h => h) (Or.inl ⟨by rfl, ?_⟩) hHeld ?_
  rotate_left
  · intro wS hSw; obtain ⟨hS0, hS1, hS2, hS3, hS4⟩ := hSw; go_simp; (try simp only [E0.out]); (try simp only [E1.out]); (try simp only [E2.out]); (try simp only [E3.out]); (try simp only [E4.out]); try with_reducible rfl
  try go_simp
  refine wpAnyH_take (i := 13) (v := ?_) rfl (by kernel_rfl) (by kernel_rfl) (by kernel_rfl) (fun _ _ _ h => h) (Or.inl ⟨by rfl, ?_⟩) hHeld ?_
  rotate_left
  · intro wS hSw; obtain ⟨hS0, hS1, hS2, hS3, hS4⟩ := hSw; go_simp; (try simp only [E0.out]); (try simp only [E1.out]); (try simp only [E2.out]); (try simp only [E3.out]); (try simp only [E4.out]); try with_reducible rfl
  try go_simp
  refine wpAnyH_take (i := 14) (v := ?_) rfl (by kernel_rfl) (by kernel_rfl) (by kernel_rfl) (fun _ _ _ h => h) (Or.inl ⟨by rfl, ?_⟩) hHeld ?_
  rotate_left
  · intro wS hSw; obtain ⟨hS0, hS1, hS2, hS3, hS4⟩ := hSw; go_simp; (try simp only [E0.out]); (try simp only [E1.out]); (try simp only [E2.out]); (try simp only [E3.out]); (try simp only [E4.out]); try with_reducible rfl
  try go_simp
  refine wpAnyH_take (i := 15) (v := ?_) rfl (by kernel_rfl) (by kernel_rfl) (by kernel_rfl) (fun _ _ _ h => h) (Or.inl ⟨by rfl, ?_⟩) hHeld ?_
  rotate_left
  · intro wS hSw; obtain ⟨hS0, hS1, hS2, hS3, hS4⟩ := hSw; go_simp; (try simp only [E0.out]); (try simp only [E1.out]); (try simp only [E2.out]); (try simp only [E3.out]); (try simp only [E4.out]); try with_reducible rfl
  try go_simp
  refine wpAnyH_take (i := 17) (v := ?_) rfl (by kernel_rfl) (by kernel_rfl) (by kernel_rfl) (fun _ _ _ h => h) (Or.inl ⟨by rfl, ?_⟩) hHeld ?_
  rotate_left
  · intro wS hSw; obtain ⟨hS0, hS1, hS2, hS3, hS4⟩ := hSw; go_simp; (try simp only [E0.out]); (try simp only [E1.out]); (try simp only [E2.out]); (try simp only [E3.out]); (try simp only [E4.out]); try with_reducible rfl
  try go_simp
  refine wpAnyH_take (i := 18) (v := ?_) rfl (by kernel_rfl) (by kernel_rfl) (by kernel_rfl) (fun _ _ _ h => h) (Or.inl ⟨by rfl, ?_⟩) hHeld ?_
  rotate_left
  · intro wS hSw; obtain ⟨hS0, hS1, hS2, hS3, hS4⟩ := hSw; go_simp; (try simp only [E0.out]); (try simp only [E1.out]); (try simp only [E2.out]); (try simp only [E3.out]); (try simp only [E4.out]); try with_reducible rfl
  try go_simp
  refine wpAnyH_take (i := 19) (v := ?_) rfl (by kernel_rfl) (by kernel_rfl) (by kernel_rfl) (fun _ _ _ h => h) (Or.inl ⟨by rfl, ?_⟩) hHeld ?_
  rotate_left
  · intro wS hSw; obtain ⟨hS0, hS1, hS2, hS3, hS4⟩ := hSw; go_simp; (try simp only [E0.out]); (try simp only [E1.out]); (try simp only [E2.out]); (try simp only [E3.out]); (try simp only [E4.out]); try with_reducible rfl
  try go_simp
  refine wpAnyH_take (i := 20) (v := ?_) rfl (by kernel_rfl) (by kernel_rfl) (by kernel_rfl) (fun _ _ _ h => h) (Or.inl ⟨by rfl, ?_⟩) hHeld ?_
  rotate_left
  · intro wS hSw; obtain ⟨hS0, hS1, hS2, hS3, hS4⟩ := hSw; go_simp; (try simp only [E0.out]); (try simp only [E1.out]); (try simp only [E2.out]); (try simp only [E3.out]); (try simp only [E4.out]); try with_reducible rfl
  try go_simp
  refine wpAnyH_take (i := 21) (v := ?_) rfl (by kernel_rfl) (by kernel_rfl) (by kernel_rfl) (fun _ _ _ h => h) (Or.inl ⟨by rfl, ?_⟩) hHeld ?_
  rotate_left
  · intro wS hSw; obtain ⟨hS0, hS1, hS2, hS3, hS4⟩ := hSw; go_simp; (try simp only [E0.out]); (try simp only [E1.out]); (try simp only [E2.out]); (try simp only [E3.out]); (try simp only [E4.out]); try with_reducible rfl
  try go_simp
  refine wpAnyH_take (i := 22) (v := ?_) rfl (by kernel_rfl) (by kernel_rfl) (by kernel_rfl) (fun _ _ _ h => h) (Or.inl ⟨by rfl, ?_⟩) hHeld ?_
  rotate_left
  · intro wS hSw; obtain ⟨hS0, hS1, hS2, hS3, hS4⟩ := hSw; go_simp; (try simp only [E0.out]); (try simp only [E1.out]); (try simp only [E2.out]); (try simp only [E3.out]); (try simp only [E4.out]); try with_reducible rfl
  try go_simp
  refine wpAnyH_take (i := 23) (v := ?_) rfl (by kernel_rfl) (by kernel_rfl) (by kernel_rfl) (fun _ _ _ h => h) (Or.inl ⟨by rfl, ?_⟩) hHeld ?_
  rotate_left
  · intro wS hSw; obtain ⟨hS0, hS1, hS2, hS3, hS4⟩ := hSw; go_simp; (try simp only [E0.out]); (try simp only [E1.out]); (try simp only [E2.out]); (try simp only [E3.out]); (try simp only [E4.out]); try with_reducible rfl
  try go_simp
  refine wpAnyH_take (i := 24) (v := ?_) rfl (by kernel_rfl) (by kernel_rfl) (by kernel_rfl) (fun _ _ _ h => h) (Or.inl ⟨by rfl, ?_⟩) hHeld ?_
  rotate_left
  · intro wS hSw; obtain ⟨hS0, hS1, hS2, hS3, hS4⟩ := hSw; go_simp; (try simp only [E0.out]); (try simp only [E1.out]); (try simp only [E2.out]); (try simp only [E3.out]); (try simp only [E4.out]); try with_reducible rfl
  try go_simp
  refine wpAnyH_take (i := 25) (v := ?_) rfl (by kernel_rfl) (by kernel_rfl) (by kernel_rfl) (fun _ _ _ h => h) (Or.inl ⟨by rfl, ?_⟩) hHeld ?_
  rotate_left
  · intro wS hSw; obtain ⟨hS0, hS1, hS2, hS3, hS4⟩ := hSw; go_simp; (try simp only [E0.out]); (try simp only [E1.out]); (try simp only [E2.out]); (try simp only [E3.out]); (try simp only [E4.out]); try with_reducible rfl
  try go_simp
  refine wpAnyH_take (i := 26) (v := ?_) rfl (by kernel_rfl) (by kernel_rfl) (by kernel_rfl) (fun _ _ _ h => h) (Or.inl ⟨by rfl, ?_⟩) hHeld ?_
  rotate_left
  · intro wS hSw; obtain ⟨hS0, hS1, hS2, hS3, hS4⟩ := hSw; go_simp; (try simp only [E0.out]); (try simp only [E1.out]); (try simp only [E2.out]); (try simp only [E3.out]); (try simp only [E4.out]); try with_reducible rfl
  try go_simp
  refine wpAnyH_ready (rs := [16]) (by kernel_rfl) (by simp) ?_
  refine AllReadyH.cons rfl (fun K hK => ?_) AllReadyH.nil
  go_simp
  refine (outside_any (an * bd + bn * ad) (ad * bd) _ (by omega) (by omega) hpos (by omega)).mono ?_
  rw [HO.out]
  rintro e x1 ⟨rfl, rfl⟩
  refine hK.out _ _ ?_ (fun hHeld => ?_)
  · exact ⟨by first | assumption | (go_simp; done), by first | assumption | (go_simp; done), by first | assumption | (go_simp; done), by first | assumption | (go_simp; done), by (repeat (first | assumption | exact Below.refl _ _ | refine below_set ?_ (by first | omega | (simp; done) | (simp; omega)) _ | refine below_drawn ?_ | refine below_drawnN ?_ _ | refine below_new ?_ _))⟩
  clear hK K
  try go_simp
  refine wpAnyH_ready (rs := [27]) (by kernel_rfl) (by simp) ?_
  refine AllReadyH.cons rfl (fun K hK => ?_) AllReadyH.nil
  go_simp
  refine (outside_any (an * bn) (ad * bd) _ (by omega) (by omega) hpos (by omega)).mono ?_
  rw [HP.out]
  rintro e x1 ⟨rfl, rfl⟩
  refine hK.out _ _ ?_ (fun hHeld => ?_)
  · exact ⟨by first | assumption | (go_simp; done), by first | assumption | (go_simp; done), by first | assumption | (go_simp; done), by first | assumption | (go_simp; done), by (repeat (first | assumption | exact Below.refl _ _ | refine below_set ?_ (by first | omega | (simp; done) | (simp; omega)) _ | refine below_drawn ?_ | refine below_drawnN ?_ _ | refine below_new ?_ _))⟩
  clear hK K
  try go_simp
  refine wpAnyH_take (i := 28) (v := ?_) rfl (by kernel_rfl) (by kernel_rfl) (by kernel_rfl) (fun _ _ _ h => h) (Or.inl ⟨by rfl, ?_⟩) hHeld ?_
  rotate_left
  · intro wS hSw; obtain ⟨hS0, hS1, hS2, hS3, hS4⟩ := hSw; go_simp; (try simp only [E0.out]); (try simp only [E1.out]); (try simp only [E2.out]); (try simp only [E3.out]); (try simp only [E4.out]); try with_reducible rfl
  try go_simp
  refine wpAnyH_take (i := 29) (v := ?_) rfl (by kernel_rfl) (by kernel_rfl) (by kernel_rfl) (fun _ _ _ h => h) (Or.inl ⟨by rfl, ?_⟩) hHeld ?_
  rotate_left
  · intro wS hSw; obtain ⟨hS0, hS1, hS2, hS3, hS4⟩ := hSw; go_simp; (try simp only [E0.out]); (try simp only [E1.out]); (try simp only [E2.out]); (try simp only [E3.out]); (try simp only [E4.out]); try with_reducible rfl
  try go_simp
  refine wpAnyH_done (by kernel_rfl) ?_ _
  obtain ⟨_, _, _, _, hBW⟩ := hHeld
  go_wp2
  go_ret
  exact ⟨rfl, hBW⟩
theorem range_entry (an ad bn bd : Int) (w : World) (_ka : an ≤ 9223372036854775807) (_kb : bn ≤ 9223372036854775807) : Calls Try.prog 9 #[.agg #[.int .i64 an, .int .i64 ad], .agg #[.int .i64 bn, .int .i64 bd]] w fun e w' => e = .returned (.bool true) ∧ Below w.heap.size w w' := by
  cases ha : Rt.valid an ad with
  | false => exact range_bad1 an ad bn bd w ha
  | true =>
    cases hb : Rt.valid bn bd with
    | false => exact range_bad2 an ad bn bd w ha hb
    | true =>
      have h1 := Rt.range_add ha hb
      have h2 := Rt.range_mul ha hb
      have t3 : ∀ (t : Int × Int × Int) (c : Int), t.2.2 = c → t = (t.1, t.2.1, c) := fun t c h => by rw [← h]
      cases ho : Rt.outside (an * bd + bn * ad) (ad * bd) with
      | true =>
        rw [ho, if_pos rfl] at h1
        cases hp : Rt.outside (an * bn) (ad * bd) with
        | true => rw [hp, if_pos rfl] at h2; exact range_11 an ad bn bd _ _ _ _ w ha hb (t3 _ _ h1) (t3 _ _ h2) ho hp
        | false => rw [hp, if_neg (by decide)] at h2; exact range_10 an ad bn bd _ _ _ _ w ha hb (t3 _ _ h1) (t3 _ _ h2) ho hp
      | false =>
        rw [ho, if_neg (by decide)] at h1
        cases hp : Rt.outside (an * bn) (ad * bd) with
        | true => rw [hp, if_pos rfl] at h2; exact range_01 an ad bn bd _ _ _ _ w ha hb (t3 _ _ h1) (t3 _ _ h2) ho hp
        | false => rw [hp, if_neg (by decide)] at h2; exact range_00 an ad bn bd _ _ _ _ w ha hb (t3 _ _ h1) (t3 _ _ h2) ho hp
end Go.Proofs.Ytjnjokkhkfdaiaa
