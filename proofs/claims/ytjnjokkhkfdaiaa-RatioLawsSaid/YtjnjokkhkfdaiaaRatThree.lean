/- The statement RatioLaws: it returns true, whatever the input, and leaves what was in memory alone. -/
import Derived.Test.YtjnjokkhkfdaiaaRatHead
namespace Go.Proofs.Ytjnjokkhkfdaiaa
open Go.RowKit

theorem tiny_of {n d : Int} (h : Rt.valid n d = true) (h1 : ¬ n < -900) (h2 : ¬ 900 < n) (h3 : ¬ 900 < d) : Rt.tiny n d = true := by
  unfold Rt.tiny
  rw [h]
  simp only [Bool.and_eq_true, decide_eq_true_eq, Bool.true_and]
  omega
set_option maxHeartbeats 4000000 in
set_option maxRecDepth 100000 in
theorem laws_walk (an ad bn bd cn cd sn sd se un ud ue : Int) (w : World) (ka : an ≤ 9223372036854775807) (kb : bn ≤ 9223372036854775807) (kc : cn ≤ 9223372036854775807) (hs : Rt.add an ad bn bd = (sn, sd, se)) (ht : Rt.add bn bd an ad = (sn, sd, se)) (hu : Rt.mul an ad bn bd = (un, ud, ue)) (hv : Rt.mul bn bd an ad = (un, ud, ue)) (hgood : Rt.tiny an ad = true → Rt.tiny bn bd = true → Rt.tiny cn cd = true → se = 0 ∧ ue = 0 ∧ ∃ xn xd xe yn yd mn md me on od dn dd de wn wd : Int, sn ≤ 1000000000 ∧ un ≤ 1000000000 ∧ yn ≤ 1000000000 ∧ on ≤ 1000000000 ∧ wn ≤ 1000000000 ∧ Rt.add sn sd cn cd = (xn, xd, xe) ∧ Rt.add bn bd cn cd = (yn, yd, 0) ∧ Rt.add an ad yn yd = (xn, xd, xe) ∧ Rt.mul un ud cn cd = (mn, md, me) ∧ Rt.mul bn bd cn cd = (on, od, 0) ∧ Rt.mul an ad on od = (mn, md, me) ∧ Rt.mul sn sd cn cd = (dn, dd, de) ∧ Rt.mul an ad cn cd = (wn, wd, 0) ∧ Rt.add wn wd on od = (dn, dd, de)) : Calls Try.prog 5 #[.agg #[.int .i64 an, .int .i64 ad], .agg #[.int .i64 bn, .int .i64 bd], .agg #[.int .i64 cn, .int .i64 cd]] w fun e w' => e = .returned (.bool true) ∧ Below w.heap.size w w' := by
  have HS := Lib.hid hs
  have HT := Lib.hid ht
  have HU := Lib.hid hu
  have HV := Lib.hid hv
  have HGOOD := Lib.hid hgood
  clear hs ht hu hv hgood
  go_enter Try.func5, Try.ntmps5
  go_wp2_with fail
  refine (head_ok _).mono ?_
  rintro e w1 ⟨rfl, hb_w1⟩
  have hB_w1 : Below w.heap.size w w1 := below_on (by (repeat (first | assumption | exact Below.refl _ _ | refine below_set ?_ (by first | omega | (simp; done) | (simp; omega)) _ | refine below_drawn ?_ | refine below_drawnN ?_ _ | refine below_new ?_ _))) hb_w1
  have hz_w1 := hb_w1.size
  try simp only [World.size_setCell] at hz_w1
  try simp only [World.size_drew] at hz_w1
  try simp only [World.size_drewN] at hz_w1
  try simp only [World.size_alloc] at hz_w1
  try simp only [World.size_setCell] at hz_w1
  try simp only [World.size_drew] at hz_w1
  try simp only [World.size_drewN] at hz_w1
  try simp only [World.size_alloc] at hz_w1
  have hl0_w1 : w.heap.size < w1.heap.size := by omega
  have hl1_w1 : w.heap.size + 1 < w1.heap.size := by omega
  have hl2_w1 : w.heap.size + 2 < w1.heap.size := by omega
  have a0_w1 : w1.cell? ⟨w.heap.size, 0, none⟩ = some (.int .i64 an) := below_cell_of hb_w1 (by first | (go_simp; done) | (refine below_cell_of (w := w) ?_ (by first | assumption | (go_simp; done)); (repeat (first | assumption | exact Below.refl _ _ | refine below_set ?_ (by first | omega | (simp; done) | (simp; omega)) _ | refine below_drawn ?_ | refine below_drawnN ?_ _ | refine below_new ?_ _))))
  have a1_w1 : w1.cell? ⟨w.heap.size, 1, none⟩ = some (.int .i64 ad) := below_cell_of hb_w1 (by first | (go_simp; done) | (refine below_cell_of (w := w) ?_ (by first | assumption | (go_simp; done)); (repeat (first | assumption | exact Below.refl _ _ | refine below_set ?_ (by first | omega | (simp; done) | (simp; omega)) _ | refine below_drawn ?_ | refine below_drawnN ?_ _ | refine below_new ?_ _))))
  have b0_w1 : w1.cell? ⟨w.heap.size + 1, 0, none⟩ = some (.int .i64 bn) := below_cell_of hb_w1 (by first | (go_simp; done) | (refine below_cell_of (w := w) ?_ (by first | assumption | (go_simp; done)); (repeat (first | assumption | exact Below.refl _ _ | refine below_set ?_ (by first | omega | (simp; done) | (simp; omega)) _ | refine below_drawn ?_ | refine below_drawnN ?_ _ | refine below_new ?_ _))))
  have b1_w1 : w1.cell? ⟨w.heap.size + 1, 1, none⟩ = some (.int .i64 bd) := below_cell_of hb_w1 (by first | (go_simp; done) | (refine below_cell_of (w := w) ?_ (by first | assumption | (go_simp; done)); (repeat (first | assumption | exact Below.refl _ _ | refine below_set ?_ (by first | omega | (simp; done) | (simp; omega)) _ | refine below_drawn ?_ | refine below_drawnN ?_ _ | refine below_new ?_ _))))
  have c0_w1 : w1.cell? ⟨w.heap.size + 2, 0, none⟩ = some (.int .i64 cn) := below_cell_of hb_w1 (by first | (go_simp; done) | (refine below_cell_of (w := w) ?_ (by first | assumption | (go_simp; done)); (repeat (first | assumption | exact Below.refl _ _ | refine below_set ?_ (by first | omega | (simp; done) | (simp; omega)) _ | refine below_drawn ?_ | refine below_drawnN ?_ _ | refine below_new ?_ _))))
  have c1_w1 : w1.cell? ⟨w.heap.size + 2, 1, none⟩ = some (.int .i64 cd) := below_cell_of hb_w1 (by first | (go_simp; done) | (refine below_cell_of (w := w) ?_ (by first | assumption | (go_simp; done)); (repeat (first | assumption | exact Below.refl _ _ | refine below_set ?_ (by first | omega | (simp; done) | (simp; omega)) _ | refine below_drawn ?_ | refine below_drawnN ?_ _ | refine below_new ?_ _))))
  go_wp2_with fail
  refine (add_any an ad bn bd _ ka kb).mono ?_
  rw [HS.out]
  rintro e w2 ⟨rfl, hb_w2⟩
  have hB_w2 : Below w.heap.size w w2 := below_on (by first | ((repeat (first | assumption | exact Below.refl _ _ | refine below_set ?_ (by first | omega | (simp; done) | (simp; omega)) _ | refine below_drawn ?_ | refine below_drawnN ?_ _ | refine below_new ?_ _)); done) | (refine below_on hB_w1 ?_; (repeat (first | assumption | exact Below.refl _ _ | refine below_set ?_ (by first | omega | (simp; done) | (simp; omega)) _ | refine below_drawn ?_ | refine below_drawnN ?_ _ | refine below_new ?_ _)))) hb_w2
  have hz_w2 := hb_w2.size
  try simp only [World.size_setCell] at hz_w2
  try simp only [World.size_drew] at hz_w2
  try simp only [World.size_drewN] at hz_w2
  try simp only [World.size_alloc] at hz_w2
  try simp only [World.size_setCell] at hz_w2
  try simp only [World.size_drew] at hz_w2
  try simp only [World.size_drewN] at hz_w2
  try simp only [World.size_alloc] at hz_w2
  have hl0_w2 : w.heap.size < w2.heap.size := by omega
  have hl1_w2 : w.heap.size + 1 < w2.heap.size := by omega
  have hl2_w2 : w.heap.size + 2 < w2.heap.size := by omega
  have a0_w2 : w2.cell? ⟨w.heap.size, 0, none⟩ = some (.int .i64 an) := below_cell_of hb_w2 (by first | (go_simp; done) | (refine below_cell_of (w := w1) ?_ (by first | assumption | (go_simp; done)); (repeat (first | assumption | exact Below.refl _ _ | refine below_set ?_ (by first | omega | (simp; done) | (simp; omega)) _ | refine below_drawn ?_ | refine below_drawnN ?_ _ | refine below_new ?_ _))))
  have a1_w2 : w2.cell? ⟨w.heap.size, 1, none⟩ = some (.int .i64 ad) := below_cell_of hb_w2 (by first | (go_simp; done) | (refine below_cell_of (w := w1) ?_ (by first | assumption | (go_simp; done)); (repeat (first | assumption | exact Below.refl _ _ | refine below_set ?_ (by first | omega | (simp; done) | (simp; omega)) _ | refine below_drawn ?_ | refine below_drawnN ?_ _ | refine below_new ?_ _))))
  have b0_w2 : w2.cell? ⟨w.heap.size + 1, 0, none⟩ = some (.int .i64 bn) := below_cell_of hb_w2 (by first | (go_simp; done) | (refine below_cell_of (w := w1) ?_ (by first | assumption | (go_simp; done)); (repeat (first | assumption | exact Below.refl _ _ | refine below_set ?_ (by first | omega | (simp; done) | (simp; omega)) _ | refine below_drawn ?_ | refine below_drawnN ?_ _ | refine below_new ?_ _))))
  have b1_w2 : w2.cell? ⟨w.heap.size + 1, 1, none⟩ = some (.int .i64 bd) := below_cell_of hb_w2 (by first | (go_simp; done) | (refine below_cell_of (w := w1) ?_ (by first | assumption | (go_simp; done)); (repeat (first | assumption | exact Below.refl _ _ | refine below_set ?_ (by first | omega | (simp; done) | (simp; omega)) _ | refine below_drawn ?_ | refine below_drawnN ?_ _ | refine below_new ?_ _))))
  have c0_w2 : w2.cell? ⟨w.heap.size + 2, 0, none⟩ = some (.int .i64 cn) := below_cell_of hb_w2 (by first | (go_simp; done) | (refine below_cell_of (w := w1) ?_ (by first | assumption | (go_simp; done)); (repeat (first | assumption | exact Below.refl _ _ | refine below_set ?_ (by first | omega | (simp; done) | (simp; omega)) _ | refine below_drawn ?_ | refine below_drawnN ?_ _ | refine below_new ?_ _))))
  have c1_w2 : w2.cell? ⟨w.heap.size + 2, 1, none⟩ = some (.int .i64 cd) := below_cell_of hb_w2 (by first | (go_simp; done) | (refine below_cell_of (w := w1) ?_ (by first | assumption | (go_simp; done)); (repeat (first | assumption | exact Below.refl _ _ | refine below_set ?_ (by first | omega | (simp; done) | (simp; omega)) _ | refine below_drawn ?_ | refine below_drawnN ?_ _ | refine below_new ?_ _))))
  go_wp2_with fail
  refine (add_any bn bd an ad _ kb ka).mono ?_
  rw [HT.out]
  rintro e w3 ⟨rfl, hb_w3⟩
  have hB_w3 : Below w.heap.size w w3 := below_on (by first | ((repeat (first | assumption | exact Below.refl _ _ | refine below_set ?_ (by first | omega | (simp; done) | (simp; omega)) _ | refine below_drawn ?_ | refine below_drawnN ?_ _ | refine below_new ?_ _)); done) | (refine below_on hB_w2 ?_; (repeat (first | assumption | exact Below.refl _ _ | refine below_set ?_ (by first | omega | (simp; done) | (simp; omega)) _ | refine below_drawn ?_ | refine below_drawnN ?_ _ | refine below_new ?_ _)))) hb_w3
  have hz_w3 := hb_w3.size
  try simp only [World.size_setCell] at hz_w3
  try simp only [World.size_drew] at hz_w3
  try simp only [World.size_drewN] at hz_w3
  try simp only [World.size_alloc] at hz_w3
  try simp only [World.size_setCell] at hz_w3
  try simp only [World.size_drew] at hz_w3
  try simp only [World.size_drewN] at hz_w3
  try simp only [World.size_alloc] at hz_w3
  have hl0_w3 : w.heap.size < w3.heap.size := by omega
  have hl1_w3 : w.heap.size + 1 < w3.heap.size := by omega
  have hl2_w3 : w.heap.size + 2 < w3.heap.size := by omega
  have hl3_w3 : w2.heap.size < w3.heap.size := by omega
  have a0_w3 : w3.cell? ⟨w.heap.size, 0, none⟩ = some (.int .i64 an) := below_cell_of hb_w3 (by first | (go_simp; done) | (refine below_cell_of (w := w2) ?_ (by first | assumption | (go_simp; done)); (repeat (first | assumption | exact Below.refl _ _ | refine below_set ?_ (by first | omega | (simp; done) | (simp; omega)) _ | refine below_drawn ?_ | refine below_drawnN ?_ _ | refine below_new ?_ _))))
  have a1_w3 : w3.cell? ⟨w.heap.size, 1, none⟩ = some (.int .i64 ad) := below_cell_of hb_w3 (by first | (go_simp; done) | (refine below_cell_of (w := w2) ?_ (by first | assumption | (go_simp; done)); (repeat (first | assumption | exact Below.refl _ _ | refine below_set ?_ (by first | omega | (simp; done) | (simp; omega)) _ | refine below_drawn ?_ | refine below_drawnN ?_ _ | refine below_new ?_ _))))
  have b0_w3 : w3.cell? ⟨w.heap.size + 1, 0, none⟩ = some (.int .i64 bn) := below_cell_of hb_w3 (by first | (go_simp; done) | (refine below_cell_of (w := w2) ?_ (by first | assumption | (go_simp; done)); (repeat (first | assumption | exact Below.refl _ _ | refine below_set ?_ (by first | omega | (simp; done) | (simp; omega)) _ | refine below_drawn ?_ | refine below_drawnN ?_ _ | refine below_new ?_ _))))
  have b1_w3 : w3.cell? ⟨w.heap.size + 1, 1, none⟩ = some (.int .i64 bd) := below_cell_of hb_w3 (by first | (go_simp; done) | (refine below_cell_of (w := w2) ?_ (by first | assumption | (go_simp; done)); (repeat (first | assumption | exact Below.refl _ _ | refine below_set ?_ (by first | omega | (simp; done) | (simp; omega)) _ | refine below_drawn ?_ | refine below_drawnN ?_ _ | refine below_new ?_ _))))
  have c0_w3 : w3.cell? ⟨w.heap.size + 2, 0, none⟩ = some (.int .i64 cn) := below_cell_of hb_w3 (by first | (go_simp; done) | (refine below_cell_of (w := w2) ?_ (by first | assumption | (go_simp; done)); (repeat (first | assumption | exact Below.refl _ _ | refine below_set ?_ (by first | omega | (simp; done) | (simp; omega)) _ | refine below_drawn ?_ | refine below_drawnN ?_ _ | refine below_new ?_ _))))
  have c1_w3 : w3.cell? ⟨w.heap.size + 2, 1, none⟩ = some (.int .i64 cd) := below_cell_of hb_w3 (by first | (go_simp; done) | (refine below_cell_of (w := w2) ?_ (by first | assumption | (go_simp; done)); (repeat (first | assumption | exact Below.refl _ _ | refine below_set ?_ (by first | omega | (simp; done) | (simp; omega)) _ | refine below_drawn ?_ | refine below_drawnN ?_ _ | refine below_new ?_ _))))
  have s0_w3 : w3.cell? ⟨w2.heap.size, 0, none⟩ = some (.int .i64 sn) := below_cell_of hb_w3 (by first | (go_simp; done) | (refine below_cell_of (w := w2) ?_ (by first | assumption | (go_simp; done)); (repeat (first | assumption | exact Below.refl _ _ | refine below_set ?_ (by first | omega | (simp; done) | (simp; omega)) _ | refine below_drawn ?_ | refine below_drawnN ?_ _ | refine below_new ?_ _))))
  have s1_w3 : w3.cell? ⟨w2.heap.size, 1, none⟩ = some (.int .i64 sd) := below_cell_of hb_w3 (by first | (go_simp; done) | (refine below_cell_of (w := w2) ?_ (by first | assumption | (go_simp; done)); (repeat (first | assumption | exact Below.refl _ _ | refine below_set ?_ (by first | omega | (simp; done) | (simp; omega)) _ | refine below_drawn ?_ | refine below_drawnN ?_ _ | refine below_new ?_ _))))
  go_wp2_with fail
  refine (mul_any an ad bn bd _ ka kb).mono ?_
  rw [HU.out]
  rintro e w4 ⟨rfl, hb_w4⟩
  have hB_w4 : Below w.heap.size w w4 := below_on (by first | ((repeat (first | assumption | exact Below.refl _ _ | refine below_set ?_ (by first | omega | (simp; done) | (simp; omega)) _ | refine below_drawn ?_ | refine below_drawnN ?_ _ | refine below_new ?_ _)); done) | (refine below_on hB_w3 ?_; (repeat (first | assumption | exact Below.refl _ _ | refine below_set ?_ (by first | omega | (simp; done) | (simp; omega)) _ | refine below_drawn ?_ | refine below_drawnN ?_ _ | refine below_new ?_ _)))) hb_w4
  have hz_w4 := hb_w4.size
  try simp only [World.size_setCell] at hz_w4
  try simp only [World.size_drew] at hz_w4
  try simp only [World.size_drewN] at hz_w4
  try simp only [World.size_alloc] at hz_w4
  try simp only [World.size_setCell] at hz_w4
  try simp only [World.size_drew] at hz_w4
  try simp only [World.size_drewN] at hz_w4
  try simp only [World.size_alloc] at hz_w4
  have hl0_w4 : w.heap.size < w4.heap.size := by omega
  have hl1_w4 : w.heap.size + 1 < w4.heap.size := by omega
  have hl2_w4 : w.heap.size + 2 < w4.heap.size := by omega
  have hl3_w4 : w2.heap.size < w4.heap.size := by omega
  have hl4_w4 : w3.heap.size < w4.heap.size := by omega
  have a0_w4 : w4.cell? ⟨w.heap.size, 0, none⟩ = some (.int .i64 an) := below_cell_of hb_w4 (by first | (go_simp; done) | (refine below_cell_of (w := w3) ?_ (by first | assumption | (go_simp; done)); (repeat (first | assumption | exact Below.refl _ _ | refine below_set ?_ (by first | omega | (simp; done) | (simp; omega)) _ | refine below_drawn ?_ | refine below_drawnN ?_ _ | refine below_new ?_ _))))
  have a1_w4 : w4.cell? ⟨w.heap.size, 1, none⟩ = some (.int .i64 ad) := below_cell_of hb_w4 (by first | (go_simp; done) | (refine below_cell_of (w := w3) ?_ (by first | assumption | (go_simp; done)); (repeat (first | assumption | exact Below.refl _ _ | refine below_set ?_ (by first | omega | (simp; done) | (simp; omega)) _ | refine below_drawn ?_ | refine below_drawnN ?_ _ | refine below_new ?_ _))))
  have b0_w4 : w4.cell? ⟨w.heap.size + 1, 0, none⟩ = some (.int .i64 bn) := below_cell_of hb_w4 (by first | (go_simp; done) | (refine below_cell_of (w := w3) ?_ (by first | assumption | (go_simp; done)); (repeat (first | assumption | exact Below.refl _ _ | refine below_set ?_ (by first | omega | (simp; done) | (simp; omega)) _ | refine below_drawn ?_ | refine below_drawnN ?_ _ | refine below_new ?_ _))))
  have b1_w4 : w4.cell? ⟨w.heap.size + 1, 1, none⟩ = some (.int .i64 bd) := below_cell_of hb_w4 (by first | (go_simp; done) | (refine below_cell_of (w := w3) ?_ (by first | assumption | (go_simp; done)); (repeat (first | assumption | exact Below.refl _ _ | refine below_set ?_ (by first | omega | (simp; done) | (simp; omega)) _ | refine below_drawn ?_ | refine below_drawnN ?_ _ | refine below_new ?_ _))))
  have c0_w4 : w4.cell? ⟨w.heap.size + 2, 0, none⟩ = some (.int .i64 cn) := below_cell_of hb_w4 (by first | (go_simp; done) | (refine below_cell_of (w := w3) ?_ (by first | assumption | (go_simp; done)); (repeat (first | assumption | exact Below.refl _ _ | refine below_set ?_ (by first | omega | (simp; done) | (simp; omega)) _ | refine below_drawn ?_ | refine below_drawnN ?_ _ | refine below_new ?_ _))))
  have c1_w4 : w4.cell? ⟨w.heap.size + 2, 1, none⟩ = some (.int .i64 cd) := below_cell_of hb_w4 (by first | (go_simp; done) | (refine below_cell_of (w := w3) ?_ (by first | assumption | (go_simp; done)); (repeat (first | assumption | exact Below.refl _ _ | refine below_set ?_ (by first | omega | (simp; done) | (simp; omega)) _ | refine below_drawn ?_ | refine below_drawnN ?_ _ | refine below_new ?_ _))))
  have s0_w4 : w4.cell? ⟨w2.heap.size, 0, none⟩ = some (.int .i64 sn) := below_cell_of hb_w4 (by first | (go_simp; done) | (refine below_cell_of (w := w3) ?_ (by first | assumption | (go_simp; done)); (repeat (first | assumption | exact Below.refl _ _ | refine below_set ?_ (by first | omega | (simp; done) | (simp; omega)) _ | refine below_drawn ?_ | refine below_drawnN ?_ _ | refine below_new ?_ _))))
  have s1_w4 : w4.cell? ⟨w2.heap.size, 1, none⟩ = some (.int .i64 sd) := below_cell_of hb_w4 (by first | (go_simp; done) | (refine below_cell_of (w := w3) ?_ (by first | assumption | (go_simp; done)); (repeat (first | assumption | exact Below.refl _ _ | refine below_set ?_ (by first | omega | (simp; done) | (simp; omega)) _ | refine below_drawn ?_ | refine below_drawnN ?_ _ | refine below_new ?_ _))))
  have t0_w4 : w4.cell? ⟨w3.heap.size, 0, none⟩ = some (.int .i64 sn) := below_cell_of hb_w4 (by first | (go_simp; done) | (refine below_cell_of (w := w3) ?_ (by first | assumption | (go_simp; done)); (repeat (first | assumption | exact Below.refl _ _ | refine below_set ?_ (by first | omega | (simp; done) | (simp; omega)) _ | refine below_drawn ?_ | refine below_drawnN ?_ _ | refine below_new ?_ _))))
  have t1_w4 : w4.cell? ⟨w3.heap.size, 1, none⟩ = some (.int .i64 sd) := below_cell_of hb_w4 (by first | (go_simp; done) | (refine below_cell_of (w := w3) ?_ (by first | assumption | (go_simp; done)); (repeat (first | assumption | exact Below.refl _ _ | refine below_set ?_ (by first | omega | (simp; done) | (simp; omega)) _ | refine below_drawn ?_ | refine below_drawnN ?_ _ | refine below_new ?_ _))))
  go_wp2_with fail
  refine (mul_any bn bd an ad _ kb ka).mono ?_
  rw [HV.out]
  rintro e w5 ⟨rfl, hb_w5⟩
  have hB_w5 : Below w.heap.size w w5 := below_on (by first | ((repeat (first | assumption | exact Below.refl _ _ | refine below_set ?_ (by first | omega | (simp; done) | (simp; omega)) _ | refine below_drawn ?_ | refine below_drawnN ?_ _ | refine below_new ?_ _)); done) | (refine below_on hB_w4 ?_; (repeat (first | assumption | exact Below.refl _ _ | refine below_set ?_ (by first | omega | (simp; done) | (simp; omega)) _ | refine below_drawn ?_ | refine below_drawnN ?_ _ | refine below_new ?_ _)))) hb_w5
  have hz_w5 := hb_w5.size
  try simp only [World.size_setCell] at hz_w5
  try simp only [World.size_drew] at hz_w5
  try simp only [World.size_drewN] at hz_w5
  try simp only [World.size_alloc] at hz_w5
  try simp only [World.size_setCell] at hz_w5
  try simp only [World.size_drew] at hz_w5
  try simp only [World.size_drewN] at hz_w5
  try simp only [World.size_alloc] at hz_w5
  have hl0_w5 : w.heap.size < w5.heap.size := by omega
  have hl1_w5 : w.heap.size + 1 < w5.heap.size := by omega
  have hl2_w5 : w.heap.size + 2 < w5.heap.size := by omega
  have hl3_w5 : w2.heap.size < w5.heap.size := by omega
  have hl4_w5 : w3.heap.size < w5.heap.size := by omega
  have hl5_w5 : w4.heap.size < w5.heap.size := by omega
  have a0_w5 : w5.cell? ⟨w.heap.size, 0, none⟩ = some (.int .i64 an) := below_cell_of hb_w5 (by first | (go_simp; done) | (refine below_cell_of (w := w4) ?_ (by first | assumption | (go_simp; done)); (repeat (first | assumption | exact Below.refl _ _ | refine below_set ?_ (by first | omega | (simp; done) | (simp; omega)) _ | refine below_drawn ?_ | refine below_drawnN ?_ _ | refine below_new ?_ _))))
  have a1_w5 : w5.cell? ⟨w.heap.size, 1, none⟩ = some (.int .i64 ad) := below_cell_of hb_w5 (by first | (go_simp; done) | (refine below_cell_of (w := w4) ?_ (by first | assumption | (go_simp; done)); (repeat (first | assumption | exact Below.refl _ _ | refine below_set ?_ (by first | omega | (simp; done) | (simp; omega)) _ | refine below_drawn ?_ | refine below_drawnN ?_ _ | refine below_new ?_ _))))
  have b0_w5 : w5.cell? ⟨w.heap.size + 1, 0, none⟩ = some (.int .i64 bn) := below_cell_of hb_w5 (by first | (go_simp; done) | (refine below_cell_of (w := w4) ?_ (by first | assumption | (go_simp; done)); (repeat (first | assumption | exact Below.refl _ _ | refine below_set ?_ (by first | omega | (simp; done) | (simp; omega)) _ | refine below_drawn ?_ | refine below_drawnN ?_ _ | refine below_new ?_ _))))
  have b1_w5 : w5.cell? ⟨w.heap.size + 1, 1, none⟩ = some (.int .i64 bd) := below_cell_of hb_w5 (by first | (go_simp; done) | (refine below_cell_of (w := w4) ?_ (by first | assumption | (go_simp; done)); (repeat (first | assumption | exact Below.refl _ _ | refine below_set ?_ (by first | omega | (simp; done) | (simp; omega)) _ | refine below_drawn ?_ | refine below_drawnN ?_ _ | refine below_new ?_ _))))
  have c0_w5 : w5.cell? ⟨w.heap.size + 2, 0, none⟩ = some (.int .i64 cn) := below_cell_of hb_w5 (by first | (go_simp; done) | (refine below_cell_of (w := w4) ?_ (by first | assumption | (go_simp; done)); (repeat (first | assumption | exact Below.refl _ _ | refine below_set ?_ (by first | omega | (simp; done) | (simp; omega)) _ | refine below_drawn ?_ | refine below_drawnN ?_ _ | refine below_new ?_ _))))
  have c1_w5 : w5.cell? ⟨w.heap.size + 2, 1, none⟩ = some (.int .i64 cd) := below_cell_of hb_w5 (by first | (go_simp; done) | (refine below_cell_of (w := w4) ?_ (by first | assumption | (go_simp; done)); (repeat (first | assumption | exact Below.refl _ _ | refine below_set ?_ (by first | omega | (simp; done) | (simp; omega)) _ | refine below_drawn ?_ | refine below_drawnN ?_ _ | refine below_new ?_ _))))
  have s0_w5 : w5.cell? ⟨w2.heap.size, 0, none⟩ = some (.int .i64 sn) := below_cell_of hb_w5 (by first | (go_simp; done) | (refine below_cell_of (w := w4) ?_ (by first | assumption | (go_simp; done)); (repeat (first | assumption | exact Below.refl _ _ | refine below_set ?_ (by first | omega | (simp; done) | (simp; omega)) _ | refine below_drawn ?_ | refine below_drawnN ?_ _ | refine below_new ?_ _))))
  have s1_w5 : w5.cell? ⟨w2.heap.size, 1, none⟩ = some (.int .i64 sd) := below_cell_of hb_w5 (by first | (go_simp; done) | (refine below_cell_of (w := w4) ?_ (by first | assumption | (go_simp; done)); (repeat (first | assumption | exact Below.refl _ _ | refine below_set ?_ (by first | omega | (simp; done) | (simp; omega)) _ | refine below_drawn ?_ | refine below_drawnN ?_ _ | refine below_new ?_ _))))
  have t0_w5 : w5.cell? ⟨w3.heap.size, 0, none⟩ = some (.int .i64 sn) := below_cell_of hb_w5 (by first | (go_simp; done) | (refine below_cell_of (w := w4) ?_ (by first | assumption | (go_simp; done)); (repeat (first | assumption | exact Below.refl _ _ | refine below_set ?_ (by first | omega | (simp; done) | (simp; omega)) _ | refine below_drawn ?_ | refine below_drawnN ?_ _ | refine below_new ?_ _))))
  have t1_w5 : w5.cell? ⟨w3.heap.size, 1, none⟩ = some (.int .i64 sd) := below_cell_of hb_w5 (by first | (go_simp; done) | (refine below_cell_of (w := w4) ?_ (by first | assumption | (go_simp; done)); (repeat (first | assumption | exact Below.refl _ _ | refine below_set ?_ (by first | omega | (simp; done) | (simp; omega)) _ | refine below_drawn ?_ | refine below_drawnN ?_ _ | refine below_new ?_ _))))
  have u0_w5 : w5.cell? ⟨w4.heap.size, 0, none⟩ = some (.int .i64 un) := below_cell_of hb_w5 (by first | (go_simp; done) | (refine below_cell_of (w := w4) ?_ (by first | assumption | (go_simp; done)); (repeat (first | assumption | exact Below.refl _ _ | refine below_set ?_ (by first | omega | (simp; done) | (simp; omega)) _ | refine below_drawn ?_ | refine below_drawnN ?_ _ | refine below_new ?_ _))))
  have u1_w5 : w5.cell? ⟨w4.heap.size, 1, none⟩ = some (.int .i64 ud) := below_cell_of hb_w5 (by first | (go_simp; done) | (refine below_cell_of (w := w4) ?_ (by first | assumption | (go_simp; done)); (repeat (first | assumption | exact Below.refl _ _ | refine below_set ?_ (by first | omega | (simp; done) | (simp; omega)) _ | refine below_drawn ?_ | refine below_drawnN ?_ _ | refine below_new ?_ _))))
  go_wp2
  go_loopw [89] (fun i wr => ∃ k : Nat, k ≤ 3 ∧ i = .int .i64 k ∧ (0 < k → Rt.tiny an ad = true) ∧ (1 < k → Rt.tiny bn bd = true) ∧ (2 < k → Rt.tiny cn cd = true) ∧ w5.heap.size + 2 ≤ wr.heap.size ∧ Below w.heap.size w wr ∧ wr.cell? ⟨w.heap.size, 0, none⟩ = some (.int .i64 an) ∧ wr.cell? ⟨w.heap.size, 1, none⟩ = some (.int .i64 ad) ∧ wr.cell? ⟨w.heap.size + 1, 0, none⟩ = some (.int .i64 bn) ∧ wr.cell? ⟨w.heap.size + 1, 1, none⟩ = some (.int .i64 bd) ∧ wr.cell? ⟨w.heap.size + 2, 0, none⟩ = some (.int .i64 cn) ∧ wr.cell? ⟨w.heap.size + 2, 1, none⟩ = some (.int .i64 cd) ∧ wr.cell? ⟨w2.heap.size, 0, none⟩ = some (.int .i64 sn) ∧ wr.cell? ⟨w2.heap.size, 1, none⟩ = some (.int .i64 sd) ∧ wr.cell? ⟨w4.heap.size, 0, none⟩ = some (.int .i64 un) ∧ wr.cell? ⟨w4.heap.size, 1, none⟩ = some (.int .i64 ud) ∧ wr.cell? ⟨w5.heap.size + 1, 0, none⟩ = some (.int .i64 an) ∧ wr.cell? ⟨w5.heap.size + 1, 1, none⟩ = some (.int .i64 ad) ∧ wr.cell? ⟨w5.heap.size + 1, 2, none⟩ = some (.int .i64 bn) ∧ wr.cell? ⟨w5.heap.size + 1, 3, none⟩ = some (.int .i64 bd) ∧ wr.cell? ⟨w5.heap.size + 1, 4, none⟩ = some (.int .i64 cn) ∧ wr.cell? ⟨w5.heap.size + 1, 5, none⟩ = some (.int .i64 cd)) (fun i _ => 3 - (intOf i).toNat)
  case atStart => exact ⟨0, by omega, rfl, fun h => absurd h (by omega), fun h => absurd h (by omega), fun h => absurd h (by omega), by go_simp; (try omega), by (repeat (first | assumption | exact Below.refl _ _ | refine below_set ?_ (by first | omega | (simp; done) | (simp; omega)) _ | refine below_drawn ?_ | refine below_drawnN ?_ _ | refine below_new ?_ _)), by first | assumption | (go_simp; done), by first | assumption | (go_simp; done), by first | assumption | (go_simp; done), by first | assumption | (go_simp; done), by first | assumption | (go_simp; done), by first | assumption | (go_simp; done), by first | assumption | (go_simp; done), by first | assumption | (go_simp; done), by first | assumption | (go_simp; done), by first | assumption | (go_simp; done), by first | assumption | (go_simp; done), by first | assumption | (go_simp; done), by first | assumption | (go_simp; done), by first | assumption | (go_simp; done), by first | assumption | (go_simp; done), by first | assumption | (go_simp; done)⟩
  case round =>
    obtain ⟨k, hk, rfl, hT0, hT1, hT2, hsz, hB, a0_wr, a1_wr, b0_wr, b1_wr, c0_wr, c1_wr, s0_wr, s1_wr, u0_wr, u1_wr, l0_wr, l1_wr, l2_wr, l3_wr, l4_wr, l5_wr⟩ := hrel
    have HT0 := Lib.hid hT0
    have HT1 := Lib.hid hT1
    have HT2 := Lib.hid hT2
    have HB := Lib.hid hB
    clear hT0 hT1 hT2 hB
    have hw5 : w4.heap.size < w5.heap.size := by omega
    have hw4 : w2.heap.size < w4.heap.size := by omega
    have hw2 : w.heap.size + 2 < w2.heap.size := by omega
    rcases (by omega : k = 0 ∨ k = 1 ∨ k = 2 ∨ k = 3) with rfl | rfl | rfl | rfl
    · cases hw : Rt.valid an ad with
      | false =>
        have HW := Lib.hid hw
        clear hw
        go_wp2_with fail
        refine (rvalid_any an ad _).mono ?_
        rw [HW.out]
        rintro e v1 ⟨rfl, hb_v1⟩
        have hB_v1 : Below wr.heap.size wr v1 := below_on (by (repeat (first | assumption | exact Below.refl _ _ | refine below_set ?_ (by first | omega | (simp; done) | (simp; omega)) _ | refine below_drawn ?_ | refine below_drawnN ?_ _ | refine below_new ?_ _))) hb_v1
        have hz_v1 := hb_v1.size
        try simp only [World.size_setCell] at hz_v1
        try simp only [World.size_drew] at hz_v1
        try simp only [World.size_drewN] at hz_v1
        try simp only [World.size_alloc] at hz_v1
        try simp only [World.size_setCell] at hz_v1
        try simp only [World.size_drew] at hz_v1
        try simp only [World.size_drewN] at hz_v1
        try simp only [World.size_alloc] at hz_v1
        have hl0_v1 : w.heap.size < v1.heap.size := by omega
        have hl1_v1 : w.heap.size + 1 < v1.heap.size := by omega
        have hl2_v1 : w.heap.size + 2 < v1.heap.size := by omega
        have hl3_v1 : w2.heap.size < v1.heap.size := by omega
        have hl4_v1 : w4.heap.size < v1.heap.size := by omega
        have hl5_v1 : w5.heap.size + 1 < v1.heap.size := by omega
        have hl6_v1 : wr.heap.size < v1.heap.size := by omega
        have a0_v1 : v1.cell? ⟨w.heap.size, 0, none⟩ = some (.int .i64 an) := below_cell_of hb_v1 (by first | (go_simp; done) | (refine below_cell_of (w := wr) ?_ (by first | assumption | (go_simp; done)); (repeat (first | assumption | exact Below.refl _ _ | refine below_set ?_ (by first | omega | (simp; done) | (simp; omega)) _ | refine below_drawn ?_ | refine below_drawnN ?_ _ | refine below_new ?_ _))))
        have a1_v1 : v1.cell? ⟨w.heap.size, 1, none⟩ = some (.int .i64 ad) := below_cell_of hb_v1 (by first | (go_simp; done) | (refine below_cell_of (w := wr) ?_ (by first | assumption | (go_simp; done)); (repeat (first | assumption | exact Below.refl _ _ | refine below_set ?_ (by first | omega | (simp; done) | (simp; omega)) _ | refine below_drawn ?_ | refine below_drawnN ?_ _ | refine below_new ?_ _))))
        have b0_v1 : v1.cell? ⟨w.heap.size + 1, 0, none⟩ = some (.int .i64 bn) := below_cell_of hb_v1 (by first | (go_simp; done) | (refine below_cell_of (w := wr) ?_ (by first | assumption | (go_simp; done)); (repeat (first | assumption | exact Below.refl _ _ | refine below_set ?_ (by first | omega | (simp; done) | (simp; omega)) _ | refine below_drawn ?_ | refine below_drawnN ?_ _ | refine below_new ?_ _))))
        have b1_v1 : v1.cell? ⟨w.heap.size + 1, 1, none⟩ = some (.int .i64 bd) := below_cell_of hb_v1 (by first | (go_simp; done) | (refine below_cell_of (w := wr) ?_ (by first | assumption | (go_simp; done)); (repeat (first | assumption | exact Below.refl _ _ | refine below_set ?_ (by first | omega | (simp; done) | (simp; omega)) _ | refine below_drawn ?_ | refine below_drawnN ?_ _ | refine below_new ?_ _))))
        have c0_v1 : v1.cell? ⟨w.heap.size + 2, 0, none⟩ = some (.int .i64 cn) := below_cell_of hb_v1 (by first | (go_simp; done) | (refine below_cell_of (w := wr) ?_ (by first | assumption | (go_simp; done)); (repeat (first | assumption | exact Below.refl _ _ | refine below_set ?_ (by first | omega | (simp; done) | (simp; omega)) _ | refine below_drawn ?_ | refine below_drawnN ?_ _ | refine below_new ?_ _))))
        have c1_v1 : v1.cell? ⟨w.heap.size + 2, 1, none⟩ = some (.int .i64 cd) := below_cell_of hb_v1 (by first | (go_simp; done) | (refine below_cell_of (w := wr) ?_ (by first | assumption | (go_simp; done)); (repeat (first | assumption | exact Below.refl _ _ | refine below_set ?_ (by first | omega | (simp; done) | (simp; omega)) _ | refine below_drawn ?_ | refine below_drawnN ?_ _ | refine below_new ?_ _))))
        have s0_v1 : v1.cell? ⟨w2.heap.size, 0, none⟩ = some (.int .i64 sn) := below_cell_of hb_v1 (by first | (go_simp; done) | (refine below_cell_of (w := wr) ?_ (by first | assumption | (go_simp; done)); (repeat (first | assumption | exact Below.refl _ _ | refine below_set ?_ (by first | omega | (simp; done) | (simp; omega)) _ | refine below_drawn ?_ | refine below_drawnN ?_ _ | refine below_new ?_ _))))
        have s1_v1 : v1.cell? ⟨w2.heap.size, 1, none⟩ = some (.int .i64 sd) := below_cell_of hb_v1 (by first | (go_simp; done) | (refine below_cell_of (w := wr) ?_ (by first | assumption | (go_simp; done)); (repeat (first | assumption | exact Below.refl _ _ | refine below_set ?_ (by first | omega | (simp; done) | (simp; omega)) _ | refine below_drawn ?_ | refine below_drawnN ?_ _ | refine below_new ?_ _))))
        have u0_v1 : v1.cell? ⟨w4.heap.size, 0, none⟩ = some (.int .i64 un) := below_cell_of hb_v1 (by first | (go_simp; done) | (refine below_cell_of (w := wr) ?_ (by first | assumption | (go_simp; done)); (repeat (first | assumption | exact Below.refl _ _ | refine below_set ?_ (by first | omega | (simp; done) | (simp; omega)) _ | refine below_drawn ?_ | refine below_drawnN ?_ _ | refine below_new ?_ _))))
        have u1_v1 : v1.cell? ⟨w4.heap.size, 1, none⟩ = some (.int .i64 ud) := below_cell_of hb_v1 (by first | (go_simp; done) | (refine below_cell_of (w := wr) ?_ (by first | assumption | (go_simp; done)); (repeat (first | assumption | exact Below.refl _ _ | refine below_set ?_ (by first | omega | (simp; done) | (simp; omega)) _ | refine below_drawn ?_ | refine below_drawnN ?_ _ | refine below_new ?_ _))))
        have l0_v1 : v1.cell? ⟨w5.heap.size + 1, 0, none⟩ = some (.int .i64 an) := below_cell_of hb_v1 (by first | (go_simp; done) | (refine below_cell_of (w := wr) ?_ (by first | assumption | (go_simp; done)); (repeat (first | assumption | exact Below.refl _ _ | refine below_set ?_ (by first | omega | (simp; done) | (simp; omega)) _ | refine below_drawn ?_ | refine below_drawnN ?_ _ | refine below_new ?_ _))))
        have l1_v1 : v1.cell? ⟨w5.heap.size + 1, 1, none⟩ = some (.int .i64 ad) := below_cell_of hb_v1 (by first | (go_simp; done) | (refine below_cell_of (w := wr) ?_ (by first | assumption | (go_simp; done)); (repeat (first | assumption | exact Below.refl _ _ | refine below_set ?_ (by first | omega | (simp; done) | (simp; omega)) _ | refine below_drawn ?_ | refine below_drawnN ?_ _ | refine below_new ?_ _))))
        have l2_v1 : v1.cell? ⟨w5.heap.size + 1, 2, none⟩ = some (.int .i64 bn) := below_cell_of hb_v1 (by first | (go_simp; done) | (refine below_cell_of (w := wr) ?_ (by first | assumption | (go_simp; done)); (repeat (first | assumption | exact Below.refl _ _ | refine below_set ?_ (by first | omega | (simp; done) | (simp; omega)) _ | refine below_drawn ?_ | refine below_drawnN ?_ _ | refine below_new ?_ _))))
        have l3_v1 : v1.cell? ⟨w5.heap.size + 1, 3, none⟩ = some (.int .i64 bd) := below_cell_of hb_v1 (by first | (go_simp; done) | (refine below_cell_of (w := wr) ?_ (by first | assumption | (go_simp; done)); (repeat (first | assumption | exact Below.refl _ _ | refine below_set ?_ (by first | omega | (simp; done) | (simp; omega)) _ | refine below_drawn ?_ | refine below_drawnN ?_ _ | refine below_new ?_ _))))
        have l4_v1 : v1.cell? ⟨w5.heap.size + 1, 4, none⟩ = some (.int .i64 cn) := below_cell_of hb_v1 (by first | (go_simp; done) | (refine below_cell_of (w := wr) ?_ (by first | assumption | (go_simp; done)); (repeat (first | assumption | exact Below.refl _ _ | refine below_set ?_ (by first | omega | (simp; done) | (simp; omega)) _ | refine below_drawn ?_ | refine below_drawnN ?_ _ | refine below_new ?_ _))))
        have l5_v1 : v1.cell? ⟨w5.heap.size + 1, 5, none⟩ = some (.int .i64 cd) := below_cell_of hb_v1 (by first | (go_simp; done) | (refine below_cell_of (w := wr) ?_ (by first | assumption | (go_simp; done)); (repeat (first | assumption | exact Below.refl _ _ | refine below_set ?_ (by first | omega | (simp; done) | (simp; omega)) _ | refine below_drawn ?_ | refine below_drawnN ?_ _ | refine below_new ?_ _))))
        have x0_v1 : v1.cell? ⟨wr.heap.size, 0, none⟩ = some (.int .i64 an) := below_cell_of hb_v1 (by first | (go_simp; done) | (refine below_cell_of (w := wr) ?_ (by first | assumption | (go_simp; done)); (repeat (first | assumption | exact Below.refl _ _ | refine below_set ?_ (by first | omega | (simp; done) | (simp; omega)) _ | refine below_drawn ?_ | refine below_drawnN ?_ _ | refine below_new ?_ _))))
        have x1_v1 : v1.cell? ⟨wr.heap.size, 1, none⟩ = some (.int .i64 ad) := below_cell_of hb_v1 (by first | (go_simp; done) | (refine below_cell_of (w := wr) ?_ (by first | assumption | (go_simp; done)); (repeat (first | assumption | exact Below.refl _ _ | refine below_set ?_ (by first | omega | (simp; done) | (simp; omega)) _ | refine below_drawn ?_ | refine below_drawnN ?_ _ | refine below_new ?_ _))))
        go_wp2
        go_ret
        exact ⟨rfl, by exact below_on HB.out (by (repeat (first | assumption | exact Below.refl _ _ | refine below_set ?_ (by first | omega | (simp; done) | (simp; omega)) _ | refine below_drawn ?_ | refine below_drawnN ?_ _ | refine below_new ?_ _)))⟩
      | true =>
        by_cases h1 : an < -900
        · skip
          have HW := Lib.hid hw
          clear hw
          go_wp2_with fail
          refine (rvalid_any an ad _).mono ?_
          rw [HW.out]
          rintro e v1 ⟨rfl, hb_v1⟩
          have hB_v1 : Below wr.heap.size wr v1 := below_on (by (repeat (first | assumption | exact Below.refl _ _ | refine below_set ?_ (by first | omega | (simp; done) | (simp; omega)) _ | refine below_drawn ?_ | refine below_drawnN ?_ _ | refine below_new ?_ _))) hb_v1
          have hz_v1 := hb_v1.size
          try simp only [World.size_setCell] at hz_v1
          try simp only [World.size_drew] at hz_v1
          try simp only [World.size_drewN] at hz_v1
          try simp only [World.size_alloc] at hz_v1
          try simp only [World.size_setCell] at hz_v1
          try simp only [World.size_drew] at hz_v1
          try simp only [World.size_drewN] at hz_v1
          try simp only [World.size_alloc] at hz_v1
          have hl0_v1 : w.heap.size < v1.heap.size := by omega
          have hl1_v1 : w.heap.size + 1 < v1.heap.size := by omega
          have hl2_v1 : w.heap.size + 2 < v1.heap.size := by omega
          have hl3_v1 : w2.heap.size < v1.heap.size := by omega
          have hl4_v1 : w4.heap.size < v1.heap.size := by omega
          have hl5_v1 : w5.heap.size + 1 < v1.heap.size := by omega
          have hl6_v1 : wr.heap.size < v1.heap.size := by omega
          have a0_v1 : v1.cell? ⟨w.heap.size, 0, none⟩ = some (.int .i64 an) := below_cell_of hb_v1 (by first | (go_simp; done) | (refine below_cell_of (w := wr) ?_ (by first | assumption | (go_simp; done)); (repeat (first | assumption | exact Below.refl _ _ | refine below_set ?_ (by first | omega | (simp; done) | (simp; omega)) _ | refine below_drawn ?_ | refine below_drawnN ?_ _ | refine below_new ?_ _))))
          have a1_v1 : v1.cell? ⟨w.heap.size, 1, none⟩ = some (.int .i64 ad) := below_cell_of hb_v1 (by first | (go_simp; done) | (refine below_cell_of (w := wr) ?_ (by first | assumption | (go_simp; done)); (repeat (first | assumption | exact Below.refl _ _ | refine below_set ?_ (by first | omega | (simp; done) | (simp; omega)) _ | refine below_drawn ?_ | refine below_drawnN ?_ _ | refine below_new ?_ _))))
          have b0_v1 : v1.cell? ⟨w.heap.size + 1, 0, none⟩ = some (.int .i64 bn) := below_cell_of hb_v1 (by first | (go_simp; done) | (refine below_cell_of (w := wr) ?_ (by first | assumption | (go_simp; done)); (repeat (first | assumption | exact Below.refl _ _ | refine below_set ?_ (by first | omega | (simp; done) | (simp; omega)) _ | refine below_drawn ?_ | refine below_drawnN ?_ _ | refine below_new ?_ _))))
          have b1_v1 : v1.cell? ⟨w.heap.size + 1, 1, none⟩ = some (.int .i64 bd) := below_cell_of hb_v1 (by first | (go_simp; done) | (refine below_cell_of (w := wr) ?_ (by first | assumption | (go_simp; done)); (repeat (first | assumption | exact Below.refl _ _ | refine below_set ?_ (by first | omega | (simp; done) | (simp; omega)) _ | refine below_drawn ?_ | refine below_drawnN ?_ _ | refine below_new ?_ _))))
          have c0_v1 : v1.cell? ⟨w.heap.size + 2, 0, none⟩ = some (.int .i64 cn) := below_cell_of hb_v1 (by first | (go_simp; done) | (refine below_cell_of (w := wr) ?_ (by first | assumption | (go_simp; done)); (repeat (first | assumption | exact Below.refl _ _ | refine below_set ?_ (by first | omega | (simp; done) | (simp; omega)) _ | refine below_drawn ?_ | refine below_drawnN ?_ _ | refine below_new ?_ _))))
          have c1_v1 : v1.cell? ⟨w.heap.size + 2, 1, none⟩ = some (.int .i64 cd) := below_cell_of hb_v1 (by first | (go_simp; done) | (refine below_cell_of (w := wr) ?_ (by first | assumption | (go_simp; done)); (repeat (first | assumption | exact Below.refl _ _ | refine below_set ?_ (by first | omega | (simp; done) | (simp; omega)) _ | refine below_drawn ?_ | refine below_drawnN ?_ _ | refine below_new ?_ _))))
          have s0_v1 : v1.cell? ⟨w2.heap.size, 0, none⟩ = some (.int .i64 sn) := below_cell_of hb_v1 (by first | (go_simp; done) | (refine below_cell_of (w := wr) ?_ (by first | assumption | (go_simp; done)); (repeat (first | assumption | exact Below.refl _ _ | refine below_set ?_ (by first | omega | (simp; done) | (simp; omega)) _ | refine below_drawn ?_ | refine below_drawnN ?_ _ | refine below_new ?_ _))))
          have s1_v1 : v1.cell? ⟨w2.heap.size, 1, none⟩ = some (.int .i64 sd) := below_cell_of hb_v1 (by first | (go_simp; done) | (refine below_cell_of (w := wr) ?_ (by first | assumption | (go_simp; done)); (repeat (first | assumption | exact Below.refl _ _ | refine below_set ?_ (by first | omega | (simp; done) | (simp; omega)) _ | refine below_drawn ?_ | refine below_drawnN ?_ _ | refine below_new ?_ _))))
          have u0_v1 : v1.cell? ⟨w4.heap.size, 0, none⟩ = some (.int .i64 un) := below_cell_of hb_v1 (by first | (go_simp; done) | (refine below_cell_of (w := wr) ?_ (by first | assumption | (go_simp; done)); (repeat (first | assumption | exact Below.refl _ _ | refine below_set ?_ (by first | omega | (simp; done) | (simp; omega)) _ | refine below_drawn ?_ | refine below_drawnN ?_ _ | refine below_new ?_ _))))
          have u1_v1 : v1.cell? ⟨w4.heap.size, 1, none⟩ = some (.int .i64 ud) := below_cell_of hb_v1 (by first | (go_simp; done) | (refine below_cell_of (w := wr) ?_ (by first | assumption | (go_simp; done)); (repeat (first | assumption | exact Below.refl _ _ | refine below_set ?_ (by first | omega | (simp; done) | (simp; omega)) _ | refine below_drawn ?_ | refine below_drawnN ?_ _ | refine below_new ?_ _))))
          have l0_v1 : v1.cell? ⟨w5.heap.size + 1, 0, none⟩ = some (.int .i64 an) := below_cell_of hb_v1 (by first | (go_simp; done) | (refine below_cell_of (w := wr) ?_ (by first | assumption | (go_simp; done)); (repeat (first | assumption | exact Below.refl _ _ | refine below_set ?_ (by first | omega | (simp; done) | (simp; omega)) _ | refine below_drawn ?_ | refine below_drawnN ?_ _ | refine below_new ?_ _))))
          have l1_v1 : v1.cell? ⟨w5.heap.size + 1, 1, none⟩ = some (.int .i64 ad) := below_cell_of hb_v1 (by first | (go_simp; done) | (refine below_cell_of (w := wr) ?_ (by first | assumption | (go_simp; done)); (repeat (first | assumption | exact Below.refl _ _ | refine below_set ?_ (by first | omega | (simp; done) | (simp; omega)) _ | refine below_drawn ?_ | refine below_drawnN ?_ _ | refine below_new ?_ _))))
          have l2_v1 : v1.cell? ⟨w5.heap.size + 1, 2, none⟩ = some (.int .i64 bn) := below_cell_of hb_v1 (by first | (go_simp; done) | (refine below_cell_of (w := wr) ?_ (by first | assumption | (go_simp; done)); (repeat (first | assumption | exact Below.refl _ _ | refine below_set ?_ (by first | omega | (simp; done) | (simp; omega)) _ | refine below_drawn ?_ | refine below_drawnN ?_ _ | refine below_new ?_ _))))
          have l3_v1 : v1.cell? ⟨w5.heap.size + 1, 3, none⟩ = some (.int .i64 bd) := below_cell_of hb_v1 (by first | (go_simp; done) | (refine below_cell_of (w := wr) ?_ (by first | assumption | (go_simp; done)); (repeat (first | assumption | exact Below.refl _ _ | refine below_set ?_ (by first | omega | (simp; done) | (simp; omega)) _ | refine below_drawn ?_ | refine below_drawnN ?_ _ | refine below_new ?_ _))))
          have l4_v1 : v1.cell? ⟨w5.heap.size + 1, 4, none⟩ = some (.int .i64 cn) := below_cell_of hb_v1 (by first | (go_simp; done) | (refine below_cell_of (w := wr) ?_ (by first | assumption | (go_simp; done)); (repeat (first | assumption | exact Below.refl _ _ | refine below_set ?_ (by first | omega | (simp; done) | (simp; omega)) _ | refine below_drawn ?_ | refine below_drawnN ?_ _ | refine below_new ?_ _))))
          have l5_v1 : v1.cell? ⟨w5.heap.size + 1, 5, none⟩ = some (.int .i64 cd) := below_cell_of hb_v1 (by first | (go_simp; done) | (refine below_cell_of (w := wr) ?_ (by first | assumption | (go_simp; done)); (repeat (first | assumption | exact Below.refl _ _ | refine below_set ?_ (by first | omega | (simp; done) | (simp; omega)) _ | refine below_drawn ?_ | refine below_drawnN ?_ _ | refine below_new ?_ _))))
          have x0_v1 : v1.cell? ⟨wr.heap.size, 0, none⟩ = some (.int .i64 an) := below_cell_of hb_v1 (by first | (go_simp; done) | (refine below_cell_of (w := wr) ?_ (by first | assumption | (go_simp; done)); (repeat (first | assumption | exact Below.refl _ _ | refine below_set ?_ (by first | omega | (simp; done) | (simp; omega)) _ | refine below_drawn ?_ | refine below_drawnN ?_ _ | refine below_new ?_ _))))
          have x1_v1 : v1.cell? ⟨wr.heap.size, 1, none⟩ = some (.int .i64 ad) := below_cell_of hb_v1 (by first | (go_simp; done) | (refine below_cell_of (w := wr) ?_ (by first | assumption | (go_simp; done)); (repeat (first | assumption | exact Below.refl _ _ | refine below_set ?_ (by first | omega | (simp; done) | (simp; omega)) _ | refine below_drawn ?_ | refine below_drawnN ?_ _ | refine below_new ?_ _))))
          go_wp2
          go_ret
          exact ⟨rfl, by exact below_on HB.out (by (repeat (first | assumption | exact Below.refl _ _ | refine below_set ?_ (by first | omega | (simp; done) | (simp; omega)) _ | refine below_drawn ?_ | refine below_drawnN ?_ _ | refine below_new ?_ _)))⟩
        · by_cases h2 : 900 < an
          · skip
            have HW := Lib.hid hw
            clear hw
            go_wp2_with fail
            refine (rvalid_any an ad _).mono ?_
            rw [HW.out]
            rintro e v1 ⟨rfl, hb_v1⟩
            have hB_v1 : Below wr.heap.size wr v1 := below_on (by (repeat (first | assumption | exact Below.refl _ _ | refine below_set ?_ (by first | omega | (simp; done) | (simp; omega)) _ | refine below_drawn ?_ | refine below_drawnN ?_ _ | refine below_new ?_ _))) hb_v1
            have hz_v1 := hb_v1.size
            try simp only [World.size_setCell] at hz_v1
            try simp only [World.size_drew] at hz_v1
            try simp only [World.size_drewN] at hz_v1
            try simp only [World.size_alloc] at hz_v1
            try simp only [World.size_setCell] at hz_v1
            try simp only [World.size_drew] at hz_v1
            try simp only [World.size_drewN] at hz_v1
            try simp only [World.size_alloc] at hz_v1
            have hl0_v1 : w.heap.size < v1.heap.size := by omega
            have hl1_v1 : w.heap.size + 1 < v1.heap.size := by omega
            have hl2_v1 : w.heap.size + 2 < v1.heap.size := by omega
            have hl3_v1 : w2.heap.size < v1.heap.size := by omega
            have hl4_v1 : w4.heap.size < v1.heap.size := by omega
            have hl5_v1 : w5.heap.size + 1 < v1.heap.size := by omega
            have hl6_v1 : wr.heap.size < v1.heap.size := by omega
            have a0_v1 : v1.cell? ⟨w.heap.size, 0, none⟩ = some (.int .i64 an) := below_cell_of hb_v1 (by first | (go_simp; done) | (refine below_cell_of (w := wr) ?_ (by first | assumption | (go_simp; done)); (repeat (first | assumption | exact Below.refl _ _ | refine below_set ?_ (by first | omega | (simp; done) | (simp; omega)) _ | refine below_drawn ?_ | refine below_drawnN ?_ _ | refine below_new ?_ _))))
            have a1_v1 : v1.cell? ⟨w.heap.size, 1, none⟩ = some (.int .i64 ad) := below_cell_of hb_v1 (by first | (go_simp; done) | (refine below_cell_of (w := wr) ?_ (by first | assumption | (go_simp; done)); (repeat (first | assumption | exact Below.refl _ _ | refine below_set ?_ (by first | omega | (simp; done) | (simp; omega)) _ | refine below_drawn ?_ | refine below_drawnN ?_ _ | refine below_new ?_ _))))
            have b0_v1 : v1.cell? ⟨w.heap.size + 1, 0, none⟩ = some (.int .i64 bn) := below_cell_of hb_v1 (by first | (go_simp; done) | (refine below_cell_of (w := wr) ?_ (by first | assumption | (go_simp; done)); (repeat (first | assumption | exact Below.refl _ _ | refine below_set ?_ (by first | omega | (simp; done) | (simp; omega)) _ | refine below_drawn ?_ | refine below_drawnN ?_ _ | refine below_new ?_ _))))
            have b1_v1 : v1.cell? ⟨w.heap.size + 1, 1, none⟩ = some (.int .i64 bd) := below_cell_of hb_v1 (by first | (go_simp; done) | (refine below_cell_of (w := wr) ?_ (by first | assumption | (go_simp; done)); (repeat (first | assumption | exact Below.refl _ _ | refine below_set ?_ (by first | omega | (simp; done) | (simp; omega)) _ | refine below_drawn ?_ | refine below_drawnN ?_ _ | refine below_new ?_ _))))
            have c0_v1 : v1.cell? ⟨w.heap.size + 2, 0, none⟩ = some (.int .i64 cn) := below_cell_of hb_v1 (by first | (go_simp; done) | (refine below_cell_of (w := wr) ?_ (by first | assumption | (go_simp; done)); (repeat (first | assumption | exact Below.refl _ _ | refine below_set ?_ (by first | omega | (simp; done) | (simp; omega)) _ | refine below_drawn ?_ | refine below_drawnN ?_ _ | refine below_new ?_ _))))
            have c1_v1 : v1.cell? ⟨w.heap.size + 2, 1, none⟩ = some (.int .i64 cd) := below_cell_of hb_v1 (by first | (go_simp; done) | (refine below_cell_of (w := wr) ?_ (by first | assumption | (go_simp; done)); (repeat (first | assumption | exact Below.refl _ _ | refine below_set ?_ (by first | omega | (simp; done) | (simp; omega)) _ | refine below_drawn ?_ | refine below_drawnN ?_ _ | refine below_new ?_ _))))
            have s0_v1 : v1.cell? ⟨w2.heap.size, 0, none⟩ = some (.int .i64 sn) := below_cell_of hb_v1 (by first | (go_simp; done) | (refine below_cell_of (w := wr) ?_ (by first | assumption | (go_simp; done)); (repeat (first | assumption | exact Below.refl _ _ | refine below_set ?_ (by first | omega | (simp; done) | (simp; omega)) _ | refine below_drawn ?_ | refine below_drawnN ?_ _ | refine below_new ?_ _))))
            have s1_v1 : v1.cell? ⟨w2.heap.size, 1, none⟩ = some (.int .i64 sd) := below_cell_of hb_v1 (by first | (go_simp; done) | (refine below_cell_of (w := wr) ?_ (by first | assumption | (go_simp; done)); (repeat (first | assumption | exact Below.refl _ _ | refine below_set ?_ (by first | omega | (simp; done) | (simp; omega)) _ | refine below_drawn ?_ | refine below_drawnN ?_ _ | refine below_new ?_ _))))
            have u0_v1 : v1.cell? ⟨w4.heap.size, 0, none⟩ = some (.int .i64 un) := below_cell_of hb_v1 (by first | (go_simp; done) | (refine below_cell_of (w := wr) ?_ (by first | assumption | (go_simp; done)); (repeat (first | assumption | exact Below.refl _ _ | refine below_set ?_ (by first | omega | (simp; done) | (simp; omega)) _ | refine below_drawn ?_ | refine below_drawnN ?_ _ | refine below_new ?_ _))))
            have u1_v1 : v1.cell? ⟨w4.heap.size, 1, none⟩ = some (.int .i64 ud) := below_cell_of hb_v1 (by first | (go_simp; done) | (refine below_cell_of (w := wr) ?_ (by first | assumption | (go_simp; done)); (repeat (first | assumption | exact Below.refl _ _ | refine below_set ?_ (by first | omega | (simp; done) | (simp; omega)) _ | refine below_drawn ?_ | refine below_drawnN ?_ _ | refine below_new ?_ _))))
            have l0_v1 : v1.cell? ⟨w5.heap.size + 1, 0, none⟩ = some (.int .i64 an) := below_cell_of hb_v1 (by first | (go_simp; done) | (refine below_cell_of (w := wr) ?_ (by first | assumption | (go_simp; done)); (repeat (first | assumption | exact Below.refl _ _ | refine below_set ?_ (by first | omega | (simp; done) | (simp; omega)) _ | refine below_drawn ?_ | refine below_drawnN ?_ _ | refine below_new ?_ _))))
            have l1_v1 : v1.cell? ⟨w5.heap.size + 1, 1, none⟩ = some (.int .i64 ad) := below_cell_of hb_v1 (by first | (go_simp; done) | (refine below_cell_of (w := wr) ?_ (by first | assumption | (go_simp; done)); (repeat (first | assumption | exact Below.refl _ _ | refine below_set ?_ (by first | omega | (simp; done) | (simp; omega)) _ | refine below_drawn ?_ | refine below_drawnN ?_ _ | refine below_new ?_ _))))
            have l2_v1 : v1.cell? ⟨w5.heap.size + 1, 2, none⟩ = some (.int .i64 bn) := below_cell_of hb_v1 (by first | (go_simp; done) | (refine below_cell_of (w := wr) ?_ (by first | assumption | (go_simp; done)); (repeat (first | assumption | exact Below.refl _ _ | refine below_set ?_ (by first | omega | (simp; done) | (simp; omega)) _ | refine below_drawn ?_ | refine below_drawnN ?_ _ | refine below_new ?_ _))))
            have l3_v1 : v1.cell? ⟨w5.heap.size + 1, 3, none⟩ = some (.int .i64 bd) := below_cell_of hb_v1 (by first | (go_simp; done) | (refine below_cell_of (w := wr) ?_ (by first | assumption | (go_simp; done)); (repeat (first | assumption | exact Below.refl _ _ | refine below_set ?_ (by first | omega | (simp; done) | (simp; omega)) _ | refine below_drawn ?_ | refine below_drawnN ?_ _ | refine below_new ?_ _))))
            have l4_v1 : v1.cell? ⟨w5.heap.size + 1, 4, none⟩ = some (.int .i64 cn) := below_cell_of hb_v1 (by first | (go_simp; done) | (refine below_cell_of (w := wr) ?_ (by first | assumption | (go_simp; done)); (repeat (first | assumption | exact Below.refl _ _ | refine below_set ?_ (by first | omega | (simp; done) | (simp; omega)) _ | refine below_drawn ?_ | refine below_drawnN ?_ _ | refine below_new ?_ _))))
            have l5_v1 : v1.cell? ⟨w5.heap.size + 1, 5, none⟩ = some (.int .i64 cd) := below_cell_of hb_v1 (by first | (go_simp; done) | (refine below_cell_of (w := wr) ?_ (by first | assumption | (go_simp; done)); (repeat (first | assumption | exact Below.refl _ _ | refine below_set ?_ (by first | omega | (simp; done) | (simp; omega)) _ | refine below_drawn ?_ | refine below_drawnN ?_ _ | refine below_new ?_ _))))
            have x0_v1 : v1.cell? ⟨wr.heap.size, 0, none⟩ = some (.int .i64 an) := below_cell_of hb_v1 (by first | (go_simp; done) | (refine below_cell_of (w := wr) ?_ (by first | assumption | (go_simp; done)); (repeat (first | assumption | exact Below.refl _ _ | refine below_set ?_ (by first | omega | (simp; done) | (simp; omega)) _ | refine below_drawn ?_ | refine below_drawnN ?_ _ | refine below_new ?_ _))))
            have x1_v1 : v1.cell? ⟨wr.heap.size, 1, none⟩ = some (.int .i64 ad) := below_cell_of hb_v1 (by first | (go_simp; done) | (refine below_cell_of (w := wr) ?_ (by first | assumption | (go_simp; done)); (repeat (first | assumption | exact Below.refl _ _ | refine below_set ?_ (by first | omega | (simp; done) | (simp; omega)) _ | refine below_drawn ?_ | refine below_drawnN ?_ _ | refine below_new ?_ _))))
            go_wp2
            go_ret
            exact ⟨rfl, by exact below_on HB.out (by (repeat (first | assumption | exact Below.refl _ _ | refine below_set ?_ (by first | omega | (simp; done) | (simp; omega)) _ | refine below_drawn ?_ | refine below_drawnN ?_ _ | refine below_new ?_ _)))⟩
          · by_cases h3 : 900 < ad
            · skip
              have HW := Lib.hid hw
              clear hw
              go_wp2_with fail
              refine (rvalid_any an ad _).mono ?_
              rw [HW.out]
              rintro e v1 ⟨rfl, hb_v1⟩
              have hB_v1 : Below wr.heap.size wr v1 := below_on (by (repeat (first | assumption | exact Below.refl _ _ | refine below_set ?_ (by first | omega | (simp; done) | (simp; omega)) _ | refine below_drawn ?_ | refine below_drawnN ?_ _ | refine below_new ?_ _))) hb_v1
              have hz_v1 := hb_v1.size
              try simp only [World.size_setCell] at hz_v1
              try simp only [World.size_drew] at hz_v1
              try simp only [World.size_drewN] at hz_v1
              try simp only [World.size_alloc] at hz_v1
              try simp only [World.size_setCell] at hz_v1
              try simp only [World.size_drew] at hz_v1
              try simp only [World.size_drewN] at hz_v1
              try simp only [World.size_alloc] at hz_v1
              have hl0_v1 : w.heap.size < v1.heap.size := by omega
              have hl1_v1 : w.heap.size + 1 < v1.heap.size := by omega
              have hl2_v1 : w.heap.size + 2 < v1.heap.size := by omega
              have hl3_v1 : w2.heap.size < v1.heap.size := by omega
              have hl4_v1 : w4.heap.size < v1.heap.size := by omega
              have hl5_v1 : w5.heap.size + 1 < v1.heap.size := by omega
              have hl6_v1 : wr.heap.size < v1.heap.size := by omega
              have a0_v1 : v1.cell? ⟨w.heap.size, 0, none⟩ = some (.int .i64 an) := below_cell_of hb_v1 (by first | (go_simp; done) | (refine below_cell_of (w := wr) ?_ (by first | assumption | (go_simp; done)); (repeat (first | assumption | exact Below.refl _ _ | refine below_set ?_ (by first | omega | (simp; done) | (simp; omega)) _ | refine below_drawn ?_ | refine below_drawnN ?_ _ | refine below_new ?_ _))))
              have a1_v1 : v1.cell? ⟨w.heap.size, 1, none⟩ = some (.int .i64 ad) := below_cell_of hb_v1 (by first | (go_simp; done) | (refine below_cell_of (w := wr) ?_ (by first | assumption | (go_simp; done)); (repeat (first | assumption | exact Below.refl _ _ | refine below_set ?_ (by first | omega | (simp; done) | (simp; omega)) _ | refine below_drawn ?_ | refine below_drawnN ?_ _ | refine below_new ?_ _))))
              have b0_v1 : v1.cell? ⟨w.heap.size + 1, 0, none⟩ = some (.int .i64 bn) := below_cell_of hb_v1 (by first | (go_simp; done) | (refine below_cell_of (w := wr) ?_ (by first | assumption | (go_simp; done)); (repeat (first | assumption | exact Below.refl _ _ | refine below_set ?_ (by first | omega | (simp; done) | (simp; omega)) _ | refine below_drawn ?_ | refine below_drawnN ?_ _ | refine below_new ?_ _))))
              have b1_v1 : v1.cell? ⟨w.heap.size + 1, 1, none⟩ = some (.int .i64 bd) := below_cell_of hb_v1 (by first | (go_simp; done) | (refine below_cell_of (w := wr) ?_ (by first | assumption | (go_simp; done)); (repeat (first | assumption | exact Below.refl _ _ | refine below_set ?_ (by first | omega | (simp; done) | (simp; omega)) _ | refine below_drawn ?_ | refine below_drawnN ?_ _ | refine below_new ?_ _))))
              have c0_v1 : v1.cell? ⟨w.heap.size + 2, 0, none⟩ = some (.int .i64 cn) := below_cell_of hb_v1 (by first | (go_simp; done) | (refine below_cell_of (w := wr) ?_ (by first | assumption | (go_simp; done)); (repeat (first | assumption | exact Below.refl _ _ | refine below_set ?_ (by first | omega | (simp; done) | (simp; omega)) _ | refine below_drawn ?_ | refine below_drawnN ?_ _ | refine below_new ?_ _))))
              have c1_v1 : v1.cell? ⟨w.heap.size + 2, 1, none⟩ = some (.int .i64 cd) := below_cell_of hb_v1 (by first | (go_simp; done) | (refine below_cell_of (w := wr) ?_ (by first | assumption | (go_simp; done)); (repeat (first | assumption | exact Below.refl _ _ | refine below_set ?_ (by first | omega | (simp; done) | (simp; omega)) _ | refine below_drawn ?_ | refine below_drawnN ?_ _ | refine below_new ?_ _))))
              have s0_v1 : v1.cell? ⟨w2.heap.size, 0, none⟩ = some (.int .i64 sn) := below_cell_of hb_v1 (by first | (go_simp; done) | (refine below_cell_of (w := wr) ?_ (by first | assumption | (go_simp; done)); (repeat (first | assumption | exact Below.refl _ _ | refine below_set ?_ (by first | omega | (simp; done) | (simp; omega)) _ | refine below_drawn ?_ | refine below_drawnN ?_ _ | refine below_new ?_ _))))
              have s1_v1 : v1.cell? ⟨w2.heap.size, 1, none⟩ = some (.int .i64 sd) := below_cell_of hb_v1 (by first | (go_simp; done) | (refine below_cell_of (w := wr) ?_ (by first | assumption | (go_simp; done)); (repeat (first | assumption | exact Below.refl _ _ | refine below_set ?_ (by first | omega | (simp; done) | (simp; omega)) _ | refine below_drawn ?_ | refine below_drawnN ?_ _ | refine below_new ?_ _))))
              have u0_v1 : v1.cell? ⟨w4.heap.size, 0, none⟩ = some (.int .i64 un) := below_cell_of hb_v1 (by first | (go_simp; done) | (refine below_cell_of (w := wr) ?_ (by first | assumption | (go_simp; done)); (repeat (first | assumption | exact Below.refl _ _ | refine below_set ?_ (by first | omega | (simp; done) | (simp; omega)) _ | refine below_drawn ?_ | refine below_drawnN ?_ _ | refine below_new ?_ _))))
              have u1_v1 : v1.cell? ⟨w4.heap.size, 1, none⟩ = some (.int .i64 ud) := below_cell_of hb_v1 (by first | (go_simp; done) | (refine below_cell_of (w := wr) ?_ (by first | assumption | (go_simp; done)); (repeat (first | assumption | exact Below.refl _ _ | refine below_set ?_ (by first | omega | (simp; done) | (simp; omega)) _ | refine below_drawn ?_ | refine below_drawnN ?_ _ | refine below_new ?_ _))))
              have l0_v1 : v1.cell? ⟨w5.heap.size + 1, 0, none⟩ = some (.int .i64 an) := below_cell_of hb_v1 (by first | (go_simp; done) | (refine below_cell_of (w := wr) ?_ (by first | assumption | (go_simp; done)); (repeat (first | assumption | exact Below.refl _ _ | refine below_set ?_ (by first | omega | (simp; done) | (simp; omega)) _ | refine below_drawn ?_ | refine below_drawnN ?_ _ | refine below_new ?_ _))))
              have l1_v1 : v1.cell? ⟨w5.heap.size + 1, 1, none⟩ = some (.int .i64 ad) := below_cell_of hb_v1 (by first | (go_simp; done) | (refine below_cell_of (w := wr) ?_ (by first | assumption | (go_simp; done)); (repeat (first | assumption | exact Below.refl _ _ | refine below_set ?_ (by first | omega | (simp; done) | (simp; omega)) _ | refine below_drawn ?_ | refine below_drawnN ?_ _ | refine below_new ?_ _))))
              have l2_v1 : v1.cell? ⟨w5.heap.size + 1, 2, none⟩ = some (.int .i64 bn) := below_cell_of hb_v1 (by first | (go_simp; done) | (refine below_cell_of (w := wr) ?_ (by first | assumption | (go_simp; done)); (repeat (first | assumption | exact Below.refl _ _ | refine below_set ?_ (by first | omega | (simp; done) | (simp; omega)) _ | refine below_drawn ?_ | refine below_drawnN ?_ _ | refine below_new ?_ _))))
              have l3_v1 : v1.cell? ⟨w5.heap.size + 1, 3, none⟩ = some (.int .i64 bd) := below_cell_of hb_v1 (by first | (go_simp; done) | (refine below_cell_of (w := wr) ?_ (by first | assumption | (go_simp; done)); (repeat (first | assumption | exact Below.refl _ _ | refine below_set ?_ (by first | omega | (simp; done) | (simp; omega)) _ | refine below_drawn ?_ | refine below_drawnN ?_ _ | refine below_new ?_ _))))
              have l4_v1 : v1.cell? ⟨w5.heap.size + 1, 4, none⟩ = some (.int .i64 cn) := below_cell_of hb_v1 (by first | (go_simp; done) | (refine below_cell_of (w := wr) ?_ (by first | assumption | (go_simp; done)); (repeat (first | assumption | exact Below.refl _ _ | refine below_set ?_ (by first | omega | (simp; done) | (simp; omega)) _ | refine below_drawn ?_ | refine below_drawnN ?_ _ | refine below_new ?_ _))))
              have l5_v1 : v1.cell? ⟨w5.heap.size + 1, 5, none⟩ = some (.int .i64 cd) := below_cell_of hb_v1 (by first | (go_simp; done) | (refine below_cell_of (w := wr) ?_ (by first | assumption | (go_simp; done)); (repeat (first | assumption | exact Below.refl _ _ | refine below_set ?_ (by first | omega | (simp; done) | (simp; omega)) _ | refine below_drawn ?_ | refine below_drawnN ?_ _ | refine below_new ?_ _))))
              have x0_v1 : v1.cell? ⟨wr.heap.size, 0, none⟩ = some (.int .i64 an) := below_cell_of hb_v1 (by first | (go_simp; done) | (refine below_cell_of (w := wr) ?_ (by first | assumption | (go_simp; done)); (repeat (first | assumption | exact Below.refl _ _ | refine below_set ?_ (by first | omega | (simp; done) | (simp; omega)) _ | refine below_drawn ?_ | refine below_drawnN ?_ _ | refine below_new ?_ _))))
              have x1_v1 : v1.cell? ⟨wr.heap.size, 1, none⟩ = some (.int .i64 ad) := below_cell_of hb_v1 (by first | (go_simp; done) | (refine below_cell_of (w := wr) ?_ (by first | assumption | (go_simp; done)); (repeat (first | assumption | exact Below.refl _ _ | refine below_set ?_ (by first | omega | (simp; done) | (simp; omega)) _ | refine below_drawn ?_ | refine below_drawnN ?_ _ | refine below_new ?_ _))))
              go_wp2
              go_ret
              exact ⟨rfl, by exact below_on HB.out (by (repeat (first | assumption | exact Below.refl _ _ | refine below_set ?_ (by first | omega | (simp; done) | (simp; omega)) _ | refine below_drawn ?_ | refine below_drawnN ?_ _ | refine below_new ?_ _)))⟩
            · skip
              have HW := Lib.hid hw
              clear hw
              go_wp2_with fail
              refine (rvalid_any an ad _).mono ?_
              rw [HW.out]
              rintro e v1 ⟨rfl, hb_v1⟩
              have hB_v1 : Below wr.heap.size wr v1 := below_on (by (repeat (first | assumption | exact Below.refl _ _ | refine below_set ?_ (by first | omega | (simp; done) | (simp; omega)) _ | refine below_drawn ?_ | refine below_drawnN ?_ _ | refine below_new ?_ _))) hb_v1
              have hz_v1 := hb_v1.size
              try simp only [World.size_setCell] at hz_v1
              try simp only [World.size_drew] at hz_v1
              try simp only [World.size_drewN] at hz_v1
              try simp only [World.size_alloc] at hz_v1
              try simp only [World.size_setCell] at hz_v1
              try simp only [World.size_drew] at hz_v1
              try simp only [World.size_drewN] at hz_v1
              try simp only [World.size_alloc] at hz_v1
              have hl0_v1 : w.heap.size < v1.heap.size := by omega
              have hl1_v1 : w.heap.size + 1 < v1.heap.size := by omega
              have hl2_v1 : w.heap.size + 2 < v1.heap.size := by omega
              have hl3_v1 : w2.heap.size < v1.heap.size := by omega
              have hl4_v1 : w4.heap.size < v1.heap.size := by omega
              have hl5_v1 : w5.heap.size + 1 < v1.heap.size := by omega
              have hl6_v1 : wr.heap.size < v1.heap.size := by omega
              have a0_v1 : v1.cell? ⟨w.heap.size, 0, none⟩ = some (.int .i64 an) := below_cell_of hb_v1 (by first | (go_simp; done) | (refine below_cell_of (w := wr) ?_ (by first | assumption | (go_simp; done)); (repeat (first | assumption | exact Below.refl _ _ | refine below_set ?_ (by first | omega | (simp; done) | (simp; omega)) _ | refine below_drawn ?_ | refine below_drawnN ?_ _ | refine below_new ?_ _))))
              have a1_v1 : v1.cell? ⟨w.heap.size, 1, none⟩ = some (.int .i64 ad) := below_cell_of hb_v1 (by first | (go_simp; done) | (refine below_cell_of (w := wr) ?_ (by first | assumption | (go_simp; done)); (repeat (first | assumption | exact Below.refl _ _ | refine below_set ?_ (by first | omega | (simp; done) | (simp; omega)) _ | refine below_drawn ?_ | refine below_drawnN ?_ _ | refine below_new ?_ _))))
              have b0_v1 : v1.cell? ⟨w.heap.size + 1, 0, none⟩ = some (.int .i64 bn) := below_cell_of hb_v1 (by first | (go_simp; done) | (refine below_cell_of (w := wr) ?_ (by first | assumption | (go_simp; done)); (repeat (first | assumption | exact Below.refl _ _ | refine below_set ?_ (by first | omega | (simp; done) | (simp; omega)) _ | refine below_drawn ?_ | refine below_drawnN ?_ _ | refine below_new ?_ _))))
              have b1_v1 : v1.cell? ⟨w.heap.size + 1, 1, none⟩ = some (.int .i64 bd) := below_cell_of hb_v1 (by first | (go_simp; done) | (refine below_cell_of (w := wr) ?_ (by first | assumption | (go_simp; done)); (repeat (first | assumption | exact Below.refl _ _ | refine below_set ?_ (by first | omega | (simp; done) | (simp; omega)) _ | refine below_drawn ?_ | refine below_drawnN ?_ _ | refine below_new ?_ _))))
              have c0_v1 : v1.cell? ⟨w.heap.size + 2, 0, none⟩ = some (.int .i64 cn) := below_cell_of hb_v1 (by first | (go_simp; done) | (refine below_cell_of (w := wr) ?_ (by first | assumption | (go_simp; done)); (repeat (first | assumption | exact Below.refl _ _ | refine below_set ?_ (by first | omega | (simp; done) | (simp; omega)) _ | refine below_drawn ?_ | refine below_drawnN ?_ _ | refine below_new ?_ _))))
              have c1_v1 : v1.cell? ⟨w.heap.size + 2, 1, none⟩ = some (.int .i64 cd) := below_cell_of hb_v1 (by first | (go_simp; done) | (refine below_cell_of (w := wr) ?_ (by first | assumption | (go_simp; done)); (repeat (first | assumption | exact Below.refl _ _ | refine below_set ?_ (by first | omega | (simp; done) | (simp; omega)) _ | refine below_drawn ?_ | refine below_drawnN ?_ _ | refine below_new ?_ _))))
              have s0_v1 : v1.cell? ⟨w2.heap.size, 0, none⟩ = some (.int .i64 sn) := below_cell_of hb_v1 (by first | (go_simp; done) | (refine below_cell_of (w := wr) ?_ (by first | assumption | (go_simp; done)); (repeat (first | assumption | exact Below.refl _ _ | refine below_set ?_ (by first | omega | (simp; done) | (simp; omega)) _ | refine below_drawn ?_ | refine below_drawnN ?_ _ | refine below_new ?_ _))))
              have s1_v1 : v1.cell? ⟨w2.heap.size, 1, none⟩ = some (.int .i64 sd) := below_cell_of hb_v1 (by first | (go_simp; done) | (refine below_cell_of (w := wr) ?_ (by first | assumption | (go_simp; done)); (repeat (first | assumption | exact Below.refl _ _ | refine below_set ?_ (by first | omega | (simp; done) | (simp; omega)) _ | refine below_drawn ?_ | refine below_drawnN ?_ _ | refine below_new ?_ _))))
              have u0_v1 : v1.cell? ⟨w4.heap.size, 0, none⟩ = some (.int .i64 un) := below_cell_of hb_v1 (by first | (go_simp; done) | (refine below_cell_of (w := wr) ?_ (by first | assumption | (go_simp; done)); (repeat (first | assumption | exact Below.refl _ _ | refine below_set ?_ (by first | omega | (simp; done) | (simp; omega)) _ | refine below_drawn ?_ | refine below_drawnN ?_ _ | refine below_new ?_ _))))
              have u1_v1 : v1.cell? ⟨w4.heap.size, 1, none⟩ = some (.int .i64 ud) := below_cell_of hb_v1 (by first | (go_simp; done) | (refine below_cell_of (w := wr) ?_ (by first | assumption | (go_simp; done)); (repeat (first | assumption | exact Below.refl _ _ | refine below_set ?_ (by first | omega | (simp; done) | (simp; omega)) _ | refine below_drawn ?_ | refine below_drawnN ?_ _ | refine below_new ?_ _))))
              have l0_v1 : v1.cell? ⟨w5.heap.size + 1, 0, none⟩ = some (.int .i64 an) := below_cell_of hb_v1 (by first | (go_simp; done) | (refine below_cell_of (w := wr) ?_ (by first | assumption | (go_simp; done)); (repeat (first | assumption | exact Below.refl _ _ | refine below_set ?_ (by first | omega | (simp; done) | (simp; omega)) _ | refine below_drawn ?_ | refine below_drawnN ?_ _ | refine below_new ?_ _))))
              have l1_v1 : v1.cell? ⟨w5.heap.size + 1, 1, none⟩ = some (.int .i64 ad) := below_cell_of hb_v1 (by first | (go_simp; done) | (refine below_cell_of (w := wr) ?_ (by first | assumption | (go_simp; done)); (repeat (first | assumption | exact Below.refl _ _ | refine below_set ?_ (by first | omega | (simp; done) | (simp; omega)) _ | refine below_drawn ?_ | refine below_drawnN ?_ _ | refine below_new ?_ _))))
              have l2_v1 : v1.cell? ⟨w5.heap.size + 1, 2, none⟩ = some (.int .i64 bn) := below_cell_of hb_v1 (by first | (go_simp; done) | (refine below_cell_of (w := wr) ?_ (by first | assumption | (go_simp; done)); (repeat (first | assumption | exact Below.refl _ _ | refine below_set ?_ (by first | omega | (simp; done) | (simp; omega)) _ | refine below_drawn ?_ | refine below_drawnN ?_ _ | refine below_new ?_ _))))
              have l3_v1 : v1.cell? ⟨w5.heap.size + 1, 3, none⟩ = some (.int .i64 bd) := below_cell_of hb_v1 (by first | (go_simp; done) | (refine below_cell_of (w := wr) ?_ (by first | assumption | (go_simp; done)); (repeat (first | assumption | exact Below.refl _ _ | refine below_set ?_ (by first | omega | (simp; done) | (simp; omega)) _ | refine below_drawn ?_ | refine below_drawnN ?_ _ | refine below_new ?_ _))))
              have l4_v1 : v1.cell? ⟨w5.heap.size + 1, 4, none⟩ = some (.int .i64 cn) := below_cell_of hb_v1 (by first | (go_simp; done) | (refine below_cell_of (w := wr) ?_ (by first | assumption | (go_simp; done)); (repeat (first | assumption | exact Below.refl _ _ | refine below_set ?_ (by first | omega | (simp; done) | (simp; omega)) _ | refine below_drawn ?_ | refine below_drawnN ?_ _ | refine below_new ?_ _))))
              have l5_v1 : v1.cell? ⟨w5.heap.size + 1, 5, none⟩ = some (.int .i64 cd) := below_cell_of hb_v1 (by first | (go_simp; done) | (refine below_cell_of (w := wr) ?_ (by first | assumption | (go_simp; done)); (repeat (first | assumption | exact Below.refl _ _ | refine below_set ?_ (by first | omega | (simp; done) | (simp; omega)) _ | refine below_drawn ?_ | refine below_drawnN ?_ _ | refine below_new ?_ _))))
              have x0_v1 : v1.cell? ⟨wr.heap.size, 0, none⟩ = some (.int .i64 an) := below_cell_of hb_v1 (by first | (go_simp; done) | (refine below_cell_of (w := wr) ?_ (by first | assumption | (go_simp; done)); (repeat (first | assumption | exact Below.refl _ _ | refine below_set ?_ (by first | omega | (simp; done) | (simp; omega)) _ | refine below_drawn ?_ | refine below_drawnN ?_ _ | refine below_new ?_ _))))
              have x1_v1 : v1.cell? ⟨wr.heap.size, 1, none⟩ = some (.int .i64 ad) := below_cell_of hb_v1 (by first | (go_simp; done) | (refine below_cell_of (w := wr) ?_ (by first | assumption | (go_simp; done)); (repeat (first | assumption | exact Below.refl _ _ | refine below_set ?_ (by first | omega | (simp; done) | (simp; omega)) _ | refine below_drawn ?_ | refine below_drawnN ?_ _ | refine below_new ?_ _))))
              go_wp2
              go_roundw
              case rel => exact ⟨1, by omega, by go_num, fun _ => tiny_of HW.out (by omega) (by omega) (by omega), fun h => absurd h (by omega), fun h => absurd h (by omega), by go_simp; (try omega), by exact below_on HB.out (by (repeat (first | assumption | exact Below.refl _ _ | refine below_set ?_ (by first | omega | (simp; done) | (simp; omega)) _ | refine below_drawn ?_ | refine below_drawnN ?_ _ | refine below_new ?_ _))), by first | assumption | (go_simp; done), by first | assumption | (go_simp; done), by first | assumption | (go_simp; done), by first | assumption | (go_simp; done), by first | assumption | (go_simp; done), by first | assumption | (go_simp; done), by first | assumption | (go_simp; done), by first | assumption | (go_simp; done), by first | assumption | (go_simp; done), by first | assumption | (go_simp; done), by first | assumption | (go_simp; done), by first | assumption | (go_simp; done), by first | assumption | (go_simp; done), by first | assumption | (go_simp; done), by first | assumption | (go_simp; done), by first | assumption | (go_simp; done)⟩
              case measure => simp [intOf]
    · cases hw : Rt.valid bn bd with
      | false =>
        have HW := Lib.hid hw
        clear hw
        go_wp2_with fail
        refine (rvalid_any bn bd _).mono ?_
        rw [HW.out]
        rintro e v1 ⟨rfl, hb_v1⟩
        have hB_v1 : Below wr.heap.size wr v1 := below_on (by (repeat (first | assumption | exact Below.refl _ _ | refine below_set ?_ (by first | omega | (simp; done) | (simp; omega)) _ | refine below_drawn ?_ | refine below_drawnN ?_ _ | refine below_new ?_ _))) hb_v1
        have hz_v1 := hb_v1.size
        try simp only [World.size_setCell] at hz_v1
        try simp only [World.size_drew] at hz_v1
        try simp only [World.size_drewN] at hz_v1
        try simp only [World.size_alloc] at hz_v1
        try simp only [World.size_setCell] at hz_v1
        try simp only [World.size_drew] at hz_v1
        try simp only [World.size_drewN] at hz_v1
        try simp only [World.size_alloc] at hz_v1
        have hl0_v1 : w.heap.size < v1.heap.size := by omega
        have hl1_v1 : w.heap.size + 1 < v1.heap.size := by omega
        have hl2_v1 : w.heap.size + 2 < v1.heap.size := by omega
        have hl3_v1 : w2.heap.size < v1.heap.size := by omega
        have hl4_v1 : w4.heap.size < v1.heap.size := by omega
        have hl5_v1 : w5.heap.size + 1 < v1.heap.size := by omega
        have hl6_v1 : wr.heap.size < v1.heap.size := by omega
        have a0_v1 : v1.cell? ⟨w.heap.size, 0, none⟩ = some (.int .i64 an) := below_cell_of hb_v1 (by first | (go_simp; done) | (refine below_cell_of (w := wr) ?_ (by first | assumption | (go_simp; done)); (repeat (first | assumption | exact Below.refl _ _ | refine below_set ?_ (by first | omega | (simp; done) | (simp; omega)) _ | refine below_drawn ?_ | refine below_drawnN ?_ _ | refine below_new ?_ _))))
        have a1_v1 : v1.cell? ⟨w.heap.size, 1, none⟩ = some (.int .i64 ad) := below_cell_of hb_v1 (by first | (go_simp; done) | (refine below_cell_of (w := wr) ?_ (by first | assumption | (go_simp; done)); (repeat (first | assumption | exact Below.refl _ _ | refine below_set ?_ (by first | omega | (simp; done) | (simp; omega)) _ | refine below_drawn ?_ | refine below_drawnN ?_ _ | refine below_new ?_ _))))
        have b0_v1 : v1.cell? ⟨w.heap.size + 1, 0, none⟩ = some (.int .i64 bn) := below_cell_of hb_v1 (by first | (go_simp; done) | (refine below_cell_of (w := wr) ?_ (by first | assumption | (go_simp; done)); (repeat (first | assumption | exact Below.refl _ _ | refine below_set ?_ (by first | omega | (simp; done) | (simp; omega)) _ | refine below_drawn ?_ | refine below_drawnN ?_ _ | refine below_new ?_ _))))
        have b1_v1 : v1.cell? ⟨w.heap.size + 1, 1, none⟩ = some (.int .i64 bd) := below_cell_of hb_v1 (by first | (go_simp; done) | (refine below_cell_of (w := wr) ?_ (by first | assumption | (go_simp; done)); (repeat (first | assumption | exact Below.refl _ _ | refine below_set ?_ (by first | omega | (simp; done) | (simp; omega)) _ | refine below_drawn ?_ | refine below_drawnN ?_ _ | refine below_new ?_ _))))
        have c0_v1 : v1.cell? ⟨w.heap.size + 2, 0, none⟩ = some (.int .i64 cn) := below_cell_of hb_v1 (by first | (go_simp; done) | (refine below_cell_of (w := wr) ?_ (by first | assumption | (go_simp; done)); (repeat (first | assumption | exact Below.refl _ _ | refine below_set ?_ (by first | omega | (simp; done) | (simp; omega)) _ | refine below_drawn ?_ | refine below_drawnN ?_ _ | refine below_new ?_ _))))
        have c1_v1 : v1.cell? ⟨w.heap.size + 2, 1, none⟩ = some (.int .i64 cd) := below_cell_of hb_v1 (by first | (go_simp; done) | (refine below_cell_of (w := wr) ?_ (by first | assumption | (go_simp; done)); (repeat (first | assumption | exact Below.refl _ _ | refine below_set ?_ (by first | omega | (simp; done) | (simp; omega)) _ | refine below_drawn ?_ | refine below_drawnN ?_ _ | refine below_new ?_ _))))
        have s0_v1 : v1.cell? ⟨w2.heap.size, 0, none⟩ = some (.int .i64 sn) := below_cell_of hb_v1 (by first | (go_simp; done) | (refine below_cell_of (w := wr) ?_ (by first | assumption | (go_simp; done)); (repeat (first | assumption | exact Below.refl _ _ | refine below_set ?_ (by first | omega | (simp; done) | (simp; omega)) _ | refine below_drawn ?_ | refine below_drawnN ?_ _ | refine below_new ?_ _))))
        have s1_v1 : v1.cell? ⟨w2.heap.size, 1, none⟩ = some (.int .i64 sd) := below_cell_of hb_v1 (by first | (go_simp; done) | (refine below_cell_of (w := wr) ?_ (by first | assumption | (go_simp; done)); (repeat (first | assumption | exact Below.refl _ _ | refine below_set ?_ (by first | omega | (simp; done) | (simp; omega)) _ | refine below_drawn ?_ | refine below_drawnN ?_ _ | refine below_new ?_ _))))
        have u0_v1 : v1.cell? ⟨w4.heap.size, 0, none⟩ = some (.int .i64 un) := below_cell_of hb_v1 (by first | (go_simp; done) | (refine below_cell_of (w := wr) ?_ (by first | assumption | (go_simp; done)); (repeat (first | assumption | exact Below.refl _ _ | refine below_set ?_ (by first | omega | (simp; done) | (simp; omega)) _ | refine below_drawn ?_ | refine below_drawnN ?_ _ | refine below_new ?_ _))))
        have u1_v1 : v1.cell? ⟨w4.heap.size, 1, none⟩ = some (.int .i64 ud) := below_cell_of hb_v1 (by first | (go_simp; done) | (refine below_cell_of (w := wr) ?_ (by first | assumption | (go_simp; done)); (repeat (first | assumption | exact Below.refl _ _ | refine below_set ?_ (by first | omega | (simp; done) | (simp; omega)) _ | refine below_drawn ?_ | refine below_drawnN ?_ _ | refine below_new ?_ _))))
        have l0_v1 : v1.cell? ⟨w5.heap.size + 1, 0, none⟩ = some (.int .i64 an) := below_cell_of hb_v1 (by first | (go_simp; done) | (refine below_cell_of (w := wr) ?_ (by first | assumption | (go_simp; done)); (repeat (first | assumption | exact Below.refl _ _ | refine below_set ?_ (by first | omega | (simp; done) | (simp; omega)) _ | refine below_drawn ?_ | refine below_drawnN ?_ _ | refine below_new ?_ _))))
        have l1_v1 : v1.cell? ⟨w5.heap.size + 1, 1, none⟩ = some (.int .i64 ad) := below_cell_of hb_v1 (by first | (go_simp; done) | (refine below_cell_of (w := wr) ?_ (by first | assumption | (go_simp; done)); (repeat (first | assumption | exact Below.refl _ _ | refine below_set ?_ (by first | omega | (simp; done) | (simp; omega)) _ | refine below_drawn ?_ | refine below_drawnN ?_ _ | refine below_new ?_ _))))
        have l2_v1 : v1.cell? ⟨w5.heap.size + 1, 2, none⟩ = some (.int .i64 bn) := below_cell_of hb_v1 (by first | (go_simp; done) | (refine below_cell_of (w := wr) ?_ (by first | assumption | (go_simp; done)); (repeat (first | assumption | exact Below.refl _ _ | refine below_set ?_ (by first | omega | (simp; done) | (simp; omega)) _ | refine below_drawn ?_ | refine below_drawnN ?_ _ | refine below_new ?_ _))))
        have l3_v1 : v1.cell? ⟨w5.heap.size + 1, 3, none⟩ = some (.int .i64 bd) := below_cell_of hb_v1 (by first | (go_simp; done) | (refine below_cell_of (w := wr) ?_ (by first | assumption | (go_simp; done)); (repeat (first | assumption | exact Below.refl _ _ | refine below_set ?_ (by first | omega | (simp; done) | (simp; omega)) _ | refine below_drawn ?_ | refine below_drawnN ?_ _ | refine below_new ?_ _))))
        have l4_v1 : v1.cell? ⟨w5.heap.size + 1, 4, none⟩ = some (.int .i64 cn) := below_cell_of hb_v1 (by first | (go_simp; done) | (refine below_cell_of (w := wr) ?_ (by first | assumption | (go_simp; done)); (repeat (first | assumption | exact Below.refl _ _ | refine below_set ?_ (by first | omega | (simp; done) | (simp; omega)) _ | refine below_drawn ?_ | refine below_drawnN ?_ _ | refine below_new ?_ _))))
        have l5_v1 : v1.cell? ⟨w5.heap.size + 1, 5, none⟩ = some (.int .i64 cd) := below_cell_of hb_v1 (by first | (go_simp; done) | (refine below_cell_of (w := wr) ?_ (by first | assumption | (go_simp; done)); (repeat (first | assumption | exact Below.refl _ _ | refine below_set ?_ (by first | omega | (simp; done) | (simp; omega)) _ | refine below_drawn ?_ | refine below_drawnN ?_ _ | refine below_new ?_ _))))
        have x0_v1 : v1.cell? ⟨wr.heap.size, 0, none⟩ = some (.int .i64 bn) := below_cell_of hb_v1 (by first | (go_simp; done) | (refine below_cell_of (w := wr) ?_ (by first | assumption | (go_simp; done)); (repeat (first | assumption | exact Below.refl _ _ | refine below_set ?_ (by first | omega | (simp; done) | (simp; omega)) _ | refine below_drawn ?_ | refine below_drawnN ?_ _ | refine below_new ?_ _))))
        have x1_v1 : v1.cell? ⟨wr.heap.size, 1, none⟩ = some (.int .i64 bd) := below_cell_of hb_v1 (by first | (go_simp; done) | (refine below_cell_of (w := wr) ?_ (by first | assumption | (go_simp; done)); (repeat (first | assumption | exact Below.refl _ _ | refine below_set ?_ (by first | omega | (simp; done) | (simp; omega)) _ | refine below_drawn ?_ | refine below_drawnN ?_ _ | refine below_new ?_ _))))
        go_wp2
        go_ret
        exact ⟨rfl, by exact below_on HB.out (by (repeat (first | assumption | exact Below.refl _ _ | refine below_set ?_ (by first | omega | (simp; done) | (simp; omega)) _ | refine below_drawn ?_ | refine below_drawnN ?_ _ | refine below_new ?_ _)))⟩
      | true =>
        by_cases h1 : bn < -900
        · skip
          have HW := Lib.hid hw
          clear hw
          go_wp2_with fail
          refine (rvalid_any bn bd _).mono ?_
          rw [HW.out]
          rintro e v1 ⟨rfl, hb_v1⟩
          have hB_v1 : Below wr.heap.size wr v1 := below_on (by (repeat (first | assumption | exact Below.refl _ _ | refine below_set ?_ (by first | omega | (simp; done) | (simp; omega)) _ | refine below_drawn ?_ | refine below_drawnN ?_ _ | refine below_new ?_ _))) hb_v1
          have hz_v1 := hb_v1.size
          try simp only [World.size_setCell] at hz_v1
          try simp only [World.size_drew] at hz_v1
          try simp only [World.size_drewN] at hz_v1
          try simp only [World.size_alloc] at hz_v1
          try simp only [World.size_setCell] at hz_v1
          try simp only [World.size_drew] at hz_v1
          try simp only [World.size_drewN] at hz_v1
          try simp only [World.size_alloc] at hz_v1
          have hl0_v1 : w.heap.size < v1.heap.size := by omega
          have hl1_v1 : w.heap.size + 1 < v1.heap.size := by omega
          have hl2_v1 : w.heap.size + 2 < v1.heap.size := by omega
          have hl3_v1 : w2.heap.size < v1.heap.size := by omega
          have hl4_v1 : w4.heap.size < v1.heap.size := by omega
          have hl5_v1 : w5.heap.size + 1 < v1.heap.size := by omega
          have hl6_v1 : wr.heap.size < v1.heap.size := by omega
          have a0_v1 : v1.cell? ⟨w.heap.size, 0, none⟩ = some (.int .i64 an) := below_cell_of hb_v1 (by first | (go_simp; done) | (refine below_cell_of (w := wr) ?_ (by first | assumption | (go_simp; done)); (repeat (first | assumption | exact Below.refl _ _ | refine below_set ?_ (by first | omega | (simp; done) | (simp; omega)) _ | refine below_drawn ?_ | refine below_drawnN ?_ _ | refine below_new ?_ _))))
          have a1_v1 : v1.cell? ⟨w.heap.size, 1, none⟩ = some (.int .i64 ad) := below_cell_of hb_v1 (by first | (go_simp; done) | (refine below_cell_of (w := wr) ?_ (by first | assumption | (go_simp; done)); (repeat (first | assumption | exact Below.refl _ _ | refine below_set ?_ (by first | omega | (simp; done) | (simp; omega)) _ | refine below_drawn ?_ | refine below_drawnN ?_ _ | refine below_new ?_ _))))
          have b0_v1 : v1.cell? ⟨w.heap.size + 1, 0, none⟩ = some (.int .i64 bn) := below_cell_of hb_v1 (by first | (go_simp; done) | (refine below_cell_of (w := wr) ?_ (by first | assumption | (go_simp; done)); (repeat (first | assumption | exact Below.refl _ _ | refine below_set ?_ (by first | omega | (simp; done) | (simp; omega)) _ | refine below_drawn ?_ | refine below_drawnN ?_ _ | refine below_new ?_ _))))
          have b1_v1 : v1.cell? ⟨w.heap.size + 1, 1, none⟩ = some (.int .i64 bd) := below_cell_of hb_v1 (by first | (go_simp; done) | (refine below_cell_of (w := wr) ?_ (by first | assumption | (go_simp; done)); (repeat (first | assumption | exact Below.refl _ _ | refine below_set ?_ (by first | omega | (simp; done) | (simp; omega)) _ | refine below_drawn ?_ | refine below_drawnN ?_ _ | refine below_new ?_ _))))
          have c0_v1 : v1.cell? ⟨w.heap.size + 2, 0, none⟩ = some (.int .i64 cn) := below_cell_of hb_v1 (by first | (go_simp; done) | (refine below_cell_of (w := wr) ?_ (by first | assumption | (go_simp; done)); (repeat (first | assumption | exact Below.refl _ _ | refine below_set ?_ (by first | omega | (simp; done) | (simp; omega)) _ | refine below_drawn ?_ | refine below_drawnN ?_ _ | refine below_new ?_ _))))
          have c1_v1 : v1.cell? ⟨w.heap.size + 2, 1, none⟩ = some (.int .i64 cd) := below_cell_of hb_v1 (by first | (go_simp; done) | (refine below_cell_of (w := wr) ?_ (by first | assumption | (go_simp; done)); (repeat (first | assumption | exact Below.refl _ _ | refine below_set ?_ (by first | omega | (simp; done) | (simp; omega)) _ | refine below_drawn ?_ | refine below_drawnN ?_ _ | refine below_new ?_ _))))
          have s0_v1 : v1.cell? ⟨w2.heap.size, 0, none⟩ = some (.int .i64 sn) := below_cell_of hb_v1 (by first | (go_simp; done) | (refine below_cell_of (w := wr) ?_ (by first | assumption | (go_simp; done)); (repeat (first | assumption | exact Below.refl _ _ | refine below_set ?_ (by first | omega | (simp; done) | (simp; omega)) _ | refine below_drawn ?_ | refine below_drawnN ?_ _ | refine below_new ?_ _))))
          have s1_v1 : v1.cell? ⟨w2.heap.size, 1, none⟩ = some (.int .i64 sd) := below_cell_of hb_v1 (by first | (go_simp; done) | (refine below_cell_of (w := wr) ?_ (by first | assumption | (go_simp; done)); (repeat (first | assumption | exact Below.refl _ _ | refine below_set ?_ (by first | omega | (simp; done) | (simp; omega)) _ | refine below_drawn ?_ | refine below_drawnN ?_ _ | refine below_new ?_ _))))
          have u0_v1 : v1.cell? ⟨w4.heap.size, 0, none⟩ = some (.int .i64 un) := below_cell_of hb_v1 (by first | (go_simp; done) | (refine below_cell_of (w := wr) ?_ (by first | assumption | (go_simp; done)); (repeat (first | assumption | exact Below.refl _ _ | refine below_set ?_ (by first | omega | (simp; done) | (simp; omega)) _ | refine below_drawn ?_ | refine below_drawnN ?_ _ | refine below_new ?_ _))))
          have u1_v1 : v1.cell? ⟨w4.heap.size, 1, none⟩ = some (.int .i64 ud) := below_cell_of hb_v1 (by first | (go_simp; done) | (refine below_cell_of (w := wr) ?_ (by first | assumption | (go_simp; done)); (repeat (first | assumption | exact Below.refl _ _ | refine below_set ?_ (by first | omega | (simp; done) | (simp; omega)) _ | refine below_drawn ?_ | refine below_drawnN ?_ _ | refine below_new ?_ _))))
          have l0_v1 : v1.cell? ⟨w5.heap.size + 1, 0, none⟩ = some (.int .i64 an) := below_cell_of hb_v1 (by first | (go_simp; done) | (refine below_cell_of (w := wr) ?_ (by first | assumption | (go_simp; done)); (repeat (first | assumption | exact Below.refl _ _ | refine below_set ?_ (by first | omega | (simp; done) | (simp; omega)) _ | refine below_drawn ?_ | refine below_drawnN ?_ _ | refine below_new ?_ _))))
          have l1_v1 : v1.cell? ⟨w5.heap.size + 1, 1, none⟩ = some (.int .i64 ad) := below_cell_of hb_v1 (by first | (go_simp; done) | (refine below_cell_of (w := wr) ?_ (by first | assumption | (go_simp; done)); (repeat (first | assumption | exact Below.refl _ _ | refine below_set ?_ (by first | omega | (simp; done) | (simp; omega)) _ | refine below_drawn ?_ | refine below_drawnN ?_ _ | refine below_new ?_ _))))
          have l2_v1 : v1.cell? ⟨w5.heap.size + 1, 2, none⟩ = some (.int .i64 bn) := below_cell_of hb_v1 (by first | (go_simp; done) | (refine below_cell_of (w := wr) ?_ (by first | assumption | (go_simp; done)); (repeat (first | assumption | exact Below.refl _ _ | refine below_set ?_ (by first | omega | (simp; done) | (simp; omega)) _ | refine below_drawn ?_ | refine below_drawnN ?_ _ | refine below_new ?_ _))))
          have l3_v1 : v1.cell? ⟨w5.heap.size + 1, 3, none⟩ = some (.int .i64 bd) := below_cell_of hb_v1 (by first | (go_simp; done) | (refine below_cell_of (w := wr) ?_ (by first | assumption | (go_simp; done)); (repeat (first | assumption | exact Below.refl _ _ | refine below_set ?_ (by first | omega | (simp; done) | (simp; omega)) _ | refine below_drawn ?_ | refine below_drawnN ?_ _ | refine below_new ?_ _))))
          have l4_v1 : v1.cell? ⟨w5.heap.size + 1, 4, none⟩ = some (.int .i64 cn) := below_cell_of hb_v1 (by first | (go_simp; done) | (refine below_cell_of (w := wr) ?_ (by first | assumption | (go_simp; done)); (repeat (first | assumption | exact Below.refl _ _ | refine below_set ?_ (by first | omega | (simp; done) | (simp; omega)) _ | refine below_drawn ?_ | refine below_drawnN ?_ _ | refine below_new ?_ _))))
          have l5_v1 : v1.cell? ⟨w5.heap.size + 1, 5, none⟩ = some (.int .i64 cd) := below_cell_of hb_v1 (by first | (go_simp; done) | (refine below_cell_of (w := wr) ?_ (by first | assumption | (go_simp; done)); (repeat (first | assumption | exact Below.refl _ _ | refine below_set ?_ (by first | omega | (simp; done) | (simp; omega)) _ | refine below_drawn ?_ | refine below_drawnN ?_ _ | refine below_new ?_ _))))
          have x0_v1 : v1.cell? ⟨wr.heap.size, 0, none⟩ = some (.int .i64 bn) := below_cell_of hb_v1 (by first | (go_simp; done) | (refine below_cell_of (w := wr) ?_ (by first | assumption | (go_simp; done)); (repeat (first | assumption | exact Below.refl _ _ | refine below_set ?_ (by first | omega | (simp; done) | (simp; omega)) _ | refine below_drawn ?_ | refine below_drawnN ?_ _ | refine below_new ?_ _))))
          have x1_v1 : v1.cell? ⟨wr.heap.size, 1, none⟩ = some (.int .i64 bd) := below_cell_of hb_v1 (by first | (go_simp; done) | (refine below_cell_of (w := wr) ?_ (by first | assumption | (go_simp; done)); (repeat (first | assumption | exact Below.refl _ _ | refine below_set ?_ (by first | omega | (simp; done) | (simp; omega)) _ | refine below_drawn ?_ | refine below_drawnN ?_ _ | refine below_new ?_ _))))
          go_wp2
          go_ret
          exact ⟨rfl, by exact below_on HB.out (by (repeat (first | assumption | exact Below.refl _ _ | refine below_set ?_ (by first | omega | (simp; done) | (simp; omega)) _ | refine below_drawn ?_ | refine below_drawnN ?_ _ | refine below_new ?_ _)))⟩
        · by_cases h2 : 900 < bn
          · skip
            have HW := Lib.hid hw
            clear hw
            go_wp2_with fail
            refine (rvalid_any bn bd _).mono ?_
            rw [HW.out]
            rintro e v1 ⟨rfl, hb_v1⟩
            have hB_v1 : Below wr.heap.size wr v1 := below_on (by (repeat (first | assumption | exact Below.refl _ _ | refine below_set ?_ (by first | omega | (simp; done) | (simp; omega)) _ | refine below_drawn ?_ | refine below_drawnN ?_ _ | refine below_new ?_ _))) hb_v1
            have hz_v1 := hb_v1.size
            try simp only [World.size_setCell] at hz_v1
            try simp only [World.size_drew] at hz_v1
            try simp only [World.size_drewN] at hz_v1
            try simp only [World.size_alloc] at hz_v1
            try simp only [World.size_setCell] at hz_v1
            try simp only [World.size_drew] at hz_v1
            try simp only [World.size_drewN] at hz_v1
            try simp only [World.size_alloc] at hz_v1
            have hl0_v1 : w.heap.size < v1.heap.size := by omega
            have hl1_v1 : w.heap.size + 1 < v1.heap.size := by omega
            have hl2_v1 : w.heap.size + 2 < v1.heap.size := by omega
            have hl3_v1 : w2.heap.size < v1.heap.size := by omega
            have hl4_v1 : w4.heap.size < v1.heap.size := by omega
            have hl5_v1 : w5.heap.size + 1 < v1.heap.size := by omega
            have hl6_v1 : wr.heap.size < v1.heap.size := by omega
            have a0_v1 : v1.cell? ⟨w.heap.size, 0, none⟩ = some (.int .i64 an) := below_cell_of hb_v1 (by first | (go_simp; done) | (refine below_cell_of (w := wr) ?_ (by first | assumption | (go_simp; done)); (repeat (first | assumption | exact Below.refl _ _ | refine below_set ?_ (by first | omega | (simp; done) | (simp; omega)) _ | refine below_drawn ?_ | refine below_drawnN ?_ _ | refine below_new ?_ _))))
            have a1_v1 : v1.cell? ⟨w.heap.size, 1, none⟩ = some (.int .i64 ad) := below_cell_of hb_v1 (by first | (go_simp; done) | (refine below_cell_of (w := wr) ?_ (by first | assumption | (go_simp; done)); (repeat (first | assumption | exact Below.refl _ _ | refine below_set ?_ (by first | omega | (simp; done) | (simp; omega)) _ | refine below_drawn ?_ | refine below_drawnN ?_ _ | refine below_new ?_ _))))
            have b0_v1 : v1.cell? ⟨w.heap.size + 1, 0, none⟩ = some (.int .i64 bn) := below_cell_of hb_v1 (by first | (go_simp; done) | (refine below_cell_of (w := wr) ?_ (by first | assumption | (go_simp; done)); (repeat (first | assumption | exact Below.refl _ _ | refine below_set ?_ (by first | omega | (simp; done) | (simp; omega)) _ | refine below_drawn ?_ | refine below_drawnN ?_ _ | refine below_new ?_ _))))
            have b1_v1 : v1.cell? ⟨w.heap.size + 1, 1, none⟩ = some (.int .i64 bd) := below_cell_of hb_v1 (by first | (go_simp; done) | (refine below_cell_of (w := wr) ?_ (by first | assumption | (go_simp; done)); (repeat (first | assumption | exact Below.refl _ _ | refine below_set ?_ (by first | omega | (simp; done) | (simp; omega)) _ | refine below_drawn ?_ | refine below_drawnN ?_ _ | refine below_new ?_ _))))
            have c0_v1 : v1.cell? ⟨w.heap.size + 2, 0, none⟩ = some (.int .i64 cn) := below_cell_of hb_v1 (by first | (go_simp; done) | (refine below_cell_of (w := wr) ?_ (by first | assumption | (go_simp; done)); (repeat (first | assumption | exact Below.refl _ _ | refine below_set ?_ (by first | omega | (simp; done) | (simp; omega)) _ | refine below_drawn ?_ | refine below_drawnN ?_ _ | refine below_new ?_ _))))
            have c1_v1 : v1.cell? ⟨w.heap.size + 2, 1, none⟩ = some (.int .i64 cd) := below_cell_of hb_v1 (by first | (go_simp; done) | (refine below_cell_of (w := wr) ?_ (by first | assumption | (go_simp; done)); (repeat (first | assumption | exact Below.refl _ _ | refine below_set ?_ (by first | omega | (simp; done) | (simp; omega)) _ | refine below_drawn ?_ | refine below_drawnN ?_ _ | refine below_new ?_ _))))
            have s0_v1 : v1.cell? ⟨w2.heap.size, 0, none⟩ = some (.int .i64 sn) := below_cell_of hb_v1 (by first | (go_simp; done) | (refine below_cell_of (w := wr) ?_ (by first | assumption | (go_simp; done)); (repeat (first | assumption | exact Below.refl _ _ | refine below_set ?_ (by first | omega | (simp; done) | (simp; omega)) _ | refine below_drawn ?_ | refine below_drawnN ?_ _ | refine below_new ?_ _))))
            have s1_v1 : v1.cell? ⟨w2.heap.size, 1, none⟩ = some (.int .i64 sd) := below_cell_of hb_v1 (by first | (go_simp; done) | (refine below_cell_of (w := wr) ?_ (by first | assumption | (go_simp; done)); (repeat (first | assumption | exact Below.refl _ _ | refine below_set ?_ (by first | omega | (simp; done) | (simp; omega)) _ | refine below_drawn ?_ | refine below_drawnN ?_ _ | refine below_new ?_ _))))
            have u0_v1 : v1.cell? ⟨w4.heap.size, 0, none⟩ = some (.int .i64 un) := below_cell_of hb_v1 (by first | (go_simp; done) | (refine below_cell_of (w := wr) ?_ (by first | assumption | (go_simp; done)); (repeat (first | assumption | exact Below.refl _ _ | refine below_set ?_ (by first | omega | (simp; done) | (simp; omega)) _ | refine below_drawn ?_ | refine below_drawnN ?_ _ | refine below_new ?_ _))))
            have u1_v1 : v1.cell? ⟨w4.heap.size, 1, none⟩ = some (.int .i64 ud) := below_cell_of hb_v1 (by first | (go_simp; done) | (refine below_cell_of (w := wr) ?_ (by first | assumption | (go_simp; done)); (repeat (first | assumption | exact Below.refl _ _ | refine below_set ?_ (by first | omega | (simp; done) | (simp; omega)) _ | refine below_drawn ?_ | refine below_drawnN ?_ _ | refine below_new ?_ _))))
            have l0_v1 : v1.cell? ⟨w5.heap.size + 1, 0, none⟩ = some (.int .i64 an) := below_cell_of hb_v1 (by first | (go_simp; done) | (refine below_cell_of (w := wr) ?_ (by first | assumption | (go_simp; done)); (repeat (first | assumption | exact Below.refl _ _ | refine below_set ?_ (by first | omega | (simp; done) | (simp; omega)) _ | refine below_drawn ?_ | refine below_drawnN ?_ _ | refine below_new ?_ _))))
            have l1_v1 : v1.cell? ⟨w5.heap.size + 1, 1, none⟩ = some (.int .i64 ad) := below_cell_of hb_v1 (by first | (go_simp; done) | (refine below_cell_of (w := wr) ?_ (by first | assumption | (go_simp; done)); (repeat (first | assumption | exact Below.refl _ _ | refine below_set ?_ (by first | omega | (simp; done) | (simp; omega)) _ | refine below_drawn ?_ | refine below_drawnN ?_ _ | refine below_new ?_ _))))
            have l2_v1 : v1.cell? ⟨w5.heap.size + 1, 2, none⟩ = some (.int .i64 bn) := below_cell_of hb_v1 (by first | (go_simp; done) | (refine below_cell_of (w := wr) ?_ (by first | assumption | (go_simp; done)); (repeat (first | assumption | exact Below.refl _ _ | refine below_set ?_ (by first | omega | (simp; done) | (simp; omega)) _ | refine below_drawn ?_ | refine below_drawnN ?_ _ | refine below_new ?_ _))))
            have l3_v1 : v1.cell? ⟨w5.heap.size + 1, 3, none⟩ = some (.int .i64 bd) := below_cell_of hb_v1 (by first | (go_simp; done) | (refine below_cell_of (w := wr) ?_ (by first | assumption | (go_simp; done)); (repeat (first | assumption | exact Below.refl _ _ | refine below_set ?_ (by first | omega | (simp; done) | (simp; omega)) _ | refine below_drawn ?_ | refine below_drawnN ?_ _ | refine below_new ?_ _))))
            have l4_v1 : v1.cell? ⟨w5.heap.size + 1, 4, none⟩ = some (.int .i64 cn) := below_cell_of hb_v1 (by first | (go_simp; done) | (refine below_cell_of (w := wr) ?_ (by first | assumption | (go_simp; done)); (repeat (first | assumption | exact Below.refl _ _ | refine below_set ?_ (by first | omega | (simp; done) | (simp; omega)) _ | refine below_drawn ?_ | refine below_drawnN ?_ _ | refine below_new ?_ _))))
            have l5_v1 : v1.cell? ⟨w5.heap.size + 1, 5, none⟩ = some (.int .i64 cd) := below_cell_of hb_v1 (by first | (go_simp; done) | (refine below_cell_of (w := wr) ?_ (by first | assumption | (go_simp; done)); (repeat (first | assumption | exact Below.refl _ _ | refine below_set ?_ (by first | omega | (simp; done) | (simp; omega)) _ | refine below_drawn ?_ | refine below_drawnN ?_ _ | refine below_new ?_ _))))
            have x0_v1 : v1.cell? ⟨wr.heap.size, 0, none⟩ = some (.int .i64 bn) := below_cell_of hb_v1 (by first | (go_simp; done) | (refine below_cell_of (w := wr) ?_ (by first | assumption | (go_simp; done)); (repeat (first | assumption | exact Below.refl _ _ | refine below_set ?_ (by first | omega | (simp; done) | (simp; omega)) _ | refine below_drawn ?_ | refine below_drawnN ?_ _ | refine below_new ?_ _))))
            have x1_v1 : v1.cell? ⟨wr.heap.size, 1, none⟩ = some (.int .i64 bd) := below_cell_of hb_v1 (by first | (go_simp; done) | (refine below_cell_of (w := wr) ?_ (by first | assumption | (go_simp; done)); (repeat (first | assumption | exact Below.refl _ _ | refine below_set ?_ (by first | omega | (simp; done) | (simp; omega)) _ | refine below_drawn ?_ | refine below_drawnN ?_ _ | refine below_new ?_ _))))
            go_wp2
            go_ret
            exact ⟨rfl, by exact below_on HB.out (by (repeat (first | assumption | exact Below.refl _ _ | refine below_set ?_ (by first | omega | (simp; done) | (simp; omega)) _ | refine below_drawn ?_ | refine below_drawnN ?_ _ | refine below_new ?_ _)))⟩
          · by_cases h3 : 900 < bd
            · skip
              have HW := Lib.hid hw
              clear hw
              go_wp2_with fail
              refine (rvalid_any bn bd _).mono ?_
              rw [HW.out]
              rintro e v1 ⟨rfl, hb_v1⟩
              have hB_v1 : Below wr.heap.size wr v1 := below_on (by (repeat (first | assumption | exact Below.refl _ _ | refine below_set ?_ (by first | omega | (simp; done) | (simp; omega)) _ | refine below_drawn ?_ | refine below_drawnN ?_ _ | refine below_new ?_ _))) hb_v1
              have hz_v1 := hb_v1.size
              try simp only [World.size_setCell] at hz_v1
              try simp only [World.size_drew] at hz_v1
              try simp only [World.size_drewN] at hz_v1
              try simp only [World.size_alloc] at hz_v1
              try simp only [World.size_setCell] at hz_v1
              try simp only [World.size_drew] at hz_v1
              try simp only [World.size_drewN] at hz_v1
              try simp only [World.size_alloc] at hz_v1
              have hl0_v1 : w.heap.size < v1.heap.size := by omega
              have hl1_v1 : w.heap.size + 1 < v1.heap.size := by omega
              have hl2_v1 : w.heap.size + 2 < v1.heap.size := by omega
              have hl3_v1 : w2.heap.size < v1.heap.size := by omega
              have hl4_v1 : w4.heap.size < v1.heap.size := by omega
              have hl5_v1 : w5.heap.size + 1 < v1.heap.size := by omega
              have hl6_v1 : wr.heap.size < v1.heap.size := by omega
              have a0_v1 : v1.cell? ⟨w.heap.size, 0, none⟩ = some (.int .i64 an) := below_cell_of hb_v1 (by first | (go_simp; done) | (refine below_cell_of (w := wr) ?_ (by first | assumption | (go_simp; done)); (repeat (first | assumption | exact Below.refl _ _ | refine below_set ?_ (by first | omega | (simp; done) | (simp; omega)) _ | refine below_drawn ?_ | refine below_drawnN ?_ _ | refine below_new ?_ _))))
              have a1_v1 : v1.cell? ⟨w.heap.size, 1, none⟩ = some (.int .i64 ad) := below_cell_of hb_v1 (by first | (go_simp; done) | (refine below_cell_of (w := wr) ?_ (by first | assumption | (go_simp; done)); (repeat (first | assumption | exact Below.refl _ _ | refine below_set ?_ (by first | omega | (simp; done) | (simp; omega)) _ | refine below_drawn ?_ | refine below_drawnN ?_ _ | refine below_new ?_ _))))
              have b0_v1 : v1.cell? ⟨w.heap.size + 1, 0, none⟩ = some (.int .i64 bn) := below_cell_of hb_v1 (by first | (go_simp; done) | (refine below_cell_of (w := wr) ?_ (by first | assumption | (go_simp; done)); (repeat (first | assumption | exact Below.refl _ _ | refine below_set ?_ (by first | omega | (simp; done) | (simp; omega)) _ | refine below_drawn ?_ | refine below_drawnN ?_ _ | refine below_new ?_ _))))
              have b1_v1 : v1.cell? ⟨w.heap.size + 1, 1, none⟩ = some (.int .i64 bd) := below_cell_of hb_v1 (by first | (go_simp; done) | (refine below_cell_of (w := wr) ?_ (by first | assumption | (go_simp; done)); (repeat (first | assumption | exact Below.refl _ _ | refine below_set ?_ (by first | omega | (simp; done) | (simp; omega)) _ | refine below_drawn ?_ | refine below_drawnN ?_ _ | refine below_new ?_ _))))
              have c0_v1 : v1.cell? ⟨w.heap.size + 2, 0, none⟩ = some (.int .i64 cn) := below_cell_of hb_v1 (by first | (go_simp; done) | (refine below_cell_of (w := wr) ?_ (by first | assumption | (go_simp; done)); (repeat (first | assumption | exact Below.refl _ _ | refine below_set ?_ (by first | omega | (simp; done) | (simp; omega)) _ | refine below_drawn ?_ | refine below_drawnN ?_ _ | refine below_new ?_ _))))
              have c1_v1 : v1.cell? ⟨w.heap.size + 2, 1, none⟩ = some (.int .i64 cd) := below_cell_of hb_v1 (by first | (go_simp; done) | (refine below_cell_of (w := wr) ?_ (by first | assumption | (go_simp; done)); (repeat (first | assumption | exact Below.refl _ _ | refine below_set ?_ (by first | omega | (simp; done) | (simp; omega)) _ | refine below_drawn ?_ | refine below_drawnN ?_ _ | refine below_new ?_ _))))
              have s0_v1 : v1.cell? ⟨w2.heap.size, 0, none⟩ = some (.int .i64 sn) := below_cell_of hb_v1 (by first | (go_simp; done) | (refine below_cell_of (w := wr) ?_ (by first | assumption | (go_simp; done)); (repeat (first | assumption | exact Below.refl _ _ | refine below_set ?_ (by first | omega | (simp; done) | (simp; omega)) _ | refine below_drawn ?_ | refine below_drawnN ?_ _ | refine below_new ?_ _))))
              have s1_v1 : v1.cell? ⟨w2.heap.size, 1, none⟩ = some (.int .i64 sd) := below_cell_of hb_v1 (by first | (go_simp; done) | (refine below_cell_of (w := wr) ?_ (by first | assumption | (go_simp; done)); (repeat (first | assumption | exact Below.refl _ _ | refine below_set ?_ (by first | omega | (simp; done) | (simp; omega)) _ | refine below_drawn ?_ | refine below_drawnN ?_ _ | refine below_new ?_ _))))
              have u0_v1 : v1.cell? ⟨w4.heap.size, 0, none⟩ = some (.int .i64 un) := below_cell_of hb_v1 (by first | (go_simp; done) | (refine below_cell_of (w := wr) ?_ (by first | assumption | (go_simp; done)); (repeat (first | assumption | exact Below.refl _ _ | refine below_set ?_ (by first | omega | (simp; done) | (simp; omega)) _ | refine below_drawn ?_ | refine below_drawnN ?_ _ | refine below_new ?_ _))))
              have u1_v1 : v1.cell? ⟨w4.heap.size, 1, none⟩ = some (.int .i64 ud) := below_cell_of hb_v1 (by first | (go_simp; done) | (refine below_cell_of (w := wr) ?_ (by first | assumption | (go_simp; done)); (repeat (first | assumption | exact Below.refl _ _ | refine below_set ?_ (by first | omega | (simp; done) | (simp; omega)) _ | refine below_drawn ?_ | refine below_drawnN ?_ _ | refine below_new ?_ _))))
              have l0_v1 : v1.cell? ⟨w5.heap.size + 1, 0, none⟩ = some (.int .i64 an) := below_cell_of hb_v1 (by first | (go_simp; done) | (refine below_cell_of (w := wr) ?_ (by first | assumption | (go_simp; done)); (repeat (first | assumption | exact Below.refl _ _ | refine below_set ?_ (by first | omega | (simp; done) | (simp; omega)) _ | refine below_drawn ?_ | refine below_drawnN ?_ _ | refine below_new ?_ _))))
              have l1_v1 : v1.cell? ⟨w5.heap.size + 1, 1, none⟩ = some (.int .i64 ad) := below_cell_of hb_v1 (by first | (go_simp; done) | (refine below_cell_of (w := wr) ?_ (by first | assumption | (go_simp; done)); (repeat (first | assumption | exact Below.refl _ _ | refine below_set ?_ (by first | omega | (simp; done) | (simp; omega)) _ | refine below_drawn ?_ | refine below_drawnN ?_ _ | refine below_new ?_ _))))
              have l2_v1 : v1.cell? ⟨w5.heap.size + 1, 2, none⟩ = some (.int .i64 bn) := below_cell_of hb_v1 (by first | (go_simp; done) | (refine below_cell_of (w := wr) ?_ (by first | assumption | (go_simp; done)); (repeat (first | assumption | exact Below.refl _ _ | refine below_set ?_ (by first | omega | (simp; done) | (simp; omega)) _ | refine below_drawn ?_ | refine below_drawnN ?_ _ | refine below_new ?_ _))))
              have l3_v1 : v1.cell? ⟨w5.heap.size + 1, 3, none⟩ = some (.int .i64 bd) := below_cell_of hb_v1 (by first | (go_simp; done) | (refine below_cell_of (w := wr) ?_ (by first | assumption | (go_simp; done)); (repeat (first | assumption | exact Below.refl _ _ | refine below_set ?_ (by first | omega | (simp; done) | (simp; omega)) _ | refine below_drawn ?_ | refine below_drawnN ?_ _ | refine below_new ?_ _))))
              have l4_v1 : v1.cell? ⟨w5.heap.size + 1, 4, none⟩ = some (.int .i64 cn) := below_cell_of hb_v1 (by first | (go_simp; done) | (refine below_cell_of (w := wr) ?_ (by first | assumption | (go_simp; done)); (repeat (first | assumption | exact Below.refl _ _ | refine below_set ?_ (by first | omega | (simp; done) | (simp; omega)) _ | refine below_drawn ?_ | refine below_drawnN ?_ _ | refine below_new ?_ _))))
              have l5_v1 : v1.cell? ⟨w5.heap.size + 1, 5, none⟩ = some (.int .i64 cd) := below_cell_of hb_v1 (by first | (go_simp; done) | (refine below_cell_of (w := wr) ?_ (by first | assumption | (go_simp; done)); (repeat (first | assumption | exact Below.refl _ _ | refine below_set ?_ (by first | omega | (simp; done) | (simp; omega)) _ | refine below_drawn ?_ | refine below_drawnN ?_ _ | refine below_new ?_ _))))
              have x0_v1 : v1.cell? ⟨wr.heap.size, 0, none⟩ = some (.int .i64 bn) := below_cell_of hb_v1 (by first | (go_simp; done) | (refine below_cell_of (w := wr) ?_ (by first | assumption | (go_simp; done)); (repeat (first | assumption | exact Below.refl _ _ | refine below_set ?_ (by first | omega | (simp; done) | (simp; omega)) _ | refine below_drawn ?_ | refine below_drawnN ?_ _ | refine below_new ?_ _))))
              have x1_v1 : v1.cell? ⟨wr.heap.size, 1, none⟩ = some (.int .i64 bd) := below_cell_of hb_v1 (by first | (go_simp; done) | (refine below_cell_of (w := wr) ?_ (by first | assumption | (go_simp; done)); (repeat (first | assumption | exact Below.refl _ _ | refine below_set ?_ (by first | omega | (simp; done) | (simp; omega)) _ | refine below_drawn ?_ | refine below_drawnN ?_ _ | refine below_new ?_ _))))
              go_wp2
              go_ret
              exact ⟨rfl, by exact below_on HB.out (by (repeat (first | assumption | exact Below.refl _ _ | refine below_set ?_ (by first | omega | (simp; done) | (simp; omega)) _ | refine below_drawn ?_ | refine below_drawnN ?_ _ | refine below_new ?_ _)))⟩
            · skip
              have HW := Lib.hid hw
              clear hw
              go_wp2_with fail
              refine (rvalid_any bn bd _).mono ?_
              rw [HW.out]
              rintro e v1 ⟨rfl, hb_v1⟩
              have hB_v1 : Below wr.heap.size wr v1 := below_on (by (repeat (first | assumption | exact Below.refl _ _ | refine below_set ?_ (by first | omega | (simp; done) | (simp; omega)) _ | refine below_drawn ?_ | refine below_drawnN ?_ _ | refine below_new ?_ _))) hb_v1
              have hz_v1 := hb_v1.size
              try simp only [World.size_setCell] at hz_v1
              try simp only [World.size_drew] at hz_v1
              try simp only [World.size_drewN] at hz_v1
              try simp only [World.size_alloc] at hz_v1
              try simp only [World.size_setCell] at hz_v1
              try simp only [World.size_drew] at hz_v1
              try simp only [World.size_drewN] at hz_v1
              try simp only [World.size_alloc] at hz_v1
              have hl0_v1 : w.heap.size < v1.heap.size := by omega
              have hl1_v1 : w.heap.size + 1 < v1.heap.size := by omega
              have hl2_v1 : w.heap.size + 2 < v1.heap.size := by omega
              have hl3_v1 : w2.heap.size < v1.heap.size := by omega
              have hl4_v1 : w4.heap.size < v1.heap.size := by omega
              have hl5_v1 : w5.heap.size + 1 < v1.heap.size := by omega
              have hl6_v1 : wr.heap.size < v1.heap.size := by omega
              have a0_v1 : v1.cell? ⟨w.heap.size, 0, none⟩ = some (.int .i64 an) := below_cell_of hb_v1 (by first | (go_simp; done) | (refine below_cell_of (w := wr) ?_ (by first | assumption | (go_simp; done)); (repeat (first | assumption | exact Below.refl _ _ | refine below_set ?_ (by first | omega | (simp; done) | (simp; omega)) _ | refine below_drawn ?_ | refine below_drawnN ?_ _ | refine below_new ?_ _))))
              have a1_v1 : v1.cell? ⟨w.heap.size, 1, none⟩ = some (.int .i64 ad) := below_cell_of hb_v1 (by first | (go_simp; done) | (refine below_cell_of (w := wr) ?_ (by first | assumption | (go_simp; done)); (repeat (first | assumption | exact Below.refl _ _ | refine below_set ?_ (by first | omega | (simp; done) | (simp; omega)) _ | refine below_drawn ?_ | refine below_drawnN ?_ _ | refine below_new ?_ _))))
              have b0_v1 : v1.cell? ⟨w.heap.size + 1, 0, none⟩ = some (.int .i64 bn) := below_cell_of hb_v1 (by first | (go_simp; done) | (refine below_cell_of (w := wr) ?_ (by first | assumption | (go_simp; done)); (repeat (first | assumption | exact Below.refl _ _ | refine below_set ?_ (by first | omega | (simp; done) | (simp; omega)) _ | refine below_drawn ?_ | refine below_drawnN ?_ _ | refine below_new ?_ _))))
              have b1_v1 : v1.cell? ⟨w.heap.size + 1, 1, none⟩ = some (.int .i64 bd) := below_cell_of hb_v1 (by first | (go_simp; done) | (refine below_cell_of (w := wr) ?_ (by first | assumption | (go_simp; done)); (repeat (first | assumption | exact Below.refl _ _ | refine below_set ?_ (by first | omega | (simp; done) | (simp; omega)) _ | refine below_drawn ?_ | refine below_drawnN ?_ _ | refine below_new ?_ _))))
              have c0_v1 : v1.cell? ⟨w.heap.size + 2, 0, none⟩ = some (.int .i64 cn) := below_cell_of hb_v1 (by first | (go_simp; done) | (refine below_cell_of (w := wr) ?_ (by first | assumption | (go_simp; done)); (repeat (first | assumption | exact Below.refl _ _ | refine below_set ?_ (by first | omega | (simp; done) | (simp; omega)) _ | refine below_drawn ?_ | refine below_drawnN ?_ _ | refine below_new ?_ _))))
              have c1_v1 : v1.cell? ⟨w.heap.size + 2, 1, none⟩ = some (.int .i64 cd) := below_cell_of hb_v1 (by first | (go_simp; done) | (refine below_cell_of (w := wr) ?_ (by first | assumption | (go_simp; done)); (repeat (first | assumption | exact Below.refl _ _ | refine below_set ?_ (by first | omega | (simp; done) | (simp; omega)) _ | refine below_drawn ?_ | refine below_drawnN ?_ _ | refine below_new ?_ _))))
              have s0_v1 : v1.cell? ⟨w2.heap.size, 0, none⟩ = some (.int .i64 sn) := below_cell_of hb_v1 (by first | (go_simp; done) | (refine below_cell_of (w := wr) ?_ (by first | assumption | (go_simp; done)); (repeat (first | assumption | exact Below.refl _ _ | refine below_set ?_ (by first | omega | (simp; done) | (simp; omega)) _ | refine below_drawn ?_ | refine below_drawnN ?_ _ | refine below_new ?_ _))))
              have s1_v1 : v1.cell? ⟨w2.heap.size, 1, none⟩ = some (.int .i64 sd) := below_cell_of hb_v1 (by first | (go_simp; done) | (refine below_cell_of (w := wr) ?_ (by first | assumption | (go_simp; done)); (repeat (first | assumption | exact Below.refl _ _ | refine below_set ?_ (by first | omega | (simp; done) | (simp; omega)) _ | refine below_drawn ?_ | refine below_drawnN ?_ _ | refine below_new ?_ _))))
              have u0_v1 : v1.cell? ⟨w4.heap.size, 0, none⟩ = some (.int .i64 un) := below_cell_of hb_v1 (by first | (go_simp; done) | (refine below_cell_of (w := wr) ?_ (by first | assumption | (go_simp; done)); (repeat (first | assumption | exact Below.refl _ _ | refine below_set ?_ (by first | omega | (simp; done) | (simp; omega)) _ | refine below_drawn ?_ | refine below_drawnN ?_ _ | refine below_new ?_ _))))
              have u1_v1 : v1.cell? ⟨w4.heap.size, 1, none⟩ = some (.int .i64 ud) := below_cell_of hb_v1 (by first | (go_simp; done) | (refine below_cell_of (w := wr) ?_ (by first | assumption | (go_simp; done)); (repeat (first | assumption | exact Below.refl _ _ | refine below_set ?_ (by first | omega | (simp; done) | (simp; omega)) _ | refine below_drawn ?_ | refine below_drawnN ?_ _ | refine below_new ?_ _))))
              have l0_v1 : v1.cell? ⟨w5.heap.size + 1, 0, none⟩ = some (.int .i64 an) := below_cell_of hb_v1 (by first | (go_simp; done) | (refine below_cell_of (w := wr) ?_ (by first | assumption | (go_simp; done)); (repeat (first | assumption | exact Below.refl _ _ | refine below_set ?_ (by first | omega | (simp; done) | (simp; omega)) _ | refine below_drawn ?_ | refine below_drawnN ?_ _ | refine below_new ?_ _))))
              have l1_v1 : v1.cell? ⟨w5.heap.size + 1, 1, none⟩ = some (.int .i64 ad) := below_cell_of hb_v1 (by first | (go_simp; done) | (refine below_cell_of (w := wr) ?_ (by first | assumption | (go_simp; done)); (repeat (first | assumption | exact Below.refl _ _ | refine below_set ?_ (by first | omega | (simp; done) | (simp; omega)) _ | refine below_drawn ?_ | refine below_drawnN ?_ _ | refine below_new ?_ _))))
              have l2_v1 : v1.cell? ⟨w5.heap.size + 1, 2, none⟩ = some (.int .i64 bn) := below_cell_of hb_v1 (by first | (go_simp; done) | (refine below_cell_of (w := wr) ?_ (by first | assumption | (go_simp; done)); (repeat (first | assumption | exact Below.refl _ _ | refine below_set ?_ (by first | omega | (simp; done) | (simp; omega)) _ | refine below_drawn ?_ | refine below_drawnN ?_ _ | refine below_new ?_ _))))
              have l3_v1 : v1.cell? ⟨w5.heap.size + 1, 3, none⟩ = some (.int .i64 bd) := below_cell_of hb_v1 (by first | (go_simp; done) | (refine below_cell_of (w := wr) ?_ (by first | assumption | (go_simp; done)); (repeat (first | assumption | exact Below.refl _ _ | refine below_set ?_ (by first | omega | (simp; done) | (simp; omega)) _ | refine below_drawn ?_ | refine below_drawnN ?_ _ | refine below_new ?_ _))))
              have l4_v1 : v1.cell? ⟨w5.heap.size + 1, 4, none⟩ = some (.int .i64 cn) := below_cell_of hb_v1 (by first | (go_simp; done) | (refine below_cell_of (w := wr) ?_ (by first | assumption | (go_simp; done)); (repeat (first | assumption | exact Below.refl _ _ | refine below_set ?_ (by first | omega | (simp; done) | (simp; omega)) _ | refine below_drawn ?_ | refine below_drawnN ?_ _ | refine below_new ?_ _))))
              have l5_v1 : v1.cell? ⟨w5.heap.size + 1, 5, none⟩ = some (.int .i64 cd) := below_cell_of hb_v1 (by first | (go_simp; done) | (refine below_cell_of (w := wr) ?_ (by first | assumption | (go_simp; done)); (repeat (first | assumption | exact Below.refl _ _ | refine below_set ?_ (by first | omega | (simp; done) | (simp; omega)) _ | refine below_drawn ?_ | refine below_drawnN ?_ _ | refine below_new ?_ _))))
              have x0_v1 : v1.cell? ⟨wr.heap.size, 0, none⟩ = some (.int .i64 bn) := below_cell_of hb_v1 (by first | (go_simp; done) | (refine below_cell_of (w := wr) ?_ (by first | assumption | (go_simp; done)); (repeat (first | assumption | exact Below.refl _ _ | refine below_set ?_ (by first | omega | (simp; done) | (simp; omega)) _ | refine below_drawn ?_ | refine below_drawnN ?_ _ | refine below_new ?_ _))))
              have x1_v1 : v1.cell? ⟨wr.heap.size, 1, none⟩ = some (.int .i64 bd) := below_cell_of hb_v1 (by first | (go_simp; done) | (refine below_cell_of (w := wr) ?_ (by first | assumption | (go_simp; done)); (repeat (first | assumption | exact Below.refl _ _ | refine below_set ?_ (by first | omega | (simp; done) | (simp; omega)) _ | refine below_drawn ?_ | refine below_drawnN ?_ _ | refine below_new ?_ _))))
              go_wp2
              go_roundw
              case rel => exact ⟨2, by omega, by go_num, fun h => HT0.out (by omega), fun _ => tiny_of HW.out (by omega) (by omega) (by omega), fun h => absurd h (by omega), by go_simp; (try omega), by exact below_on HB.out (by (repeat (first | assumption | exact Below.refl _ _ | refine below_set ?_ (by first | omega | (simp; done) | (simp; omega)) _ | refine below_drawn ?_ | refine below_drawnN ?_ _ | refine below_new ?_ _))), by first | assumption | (go_simp; done), by first | assumption | (go_simp; done), by first | assumption | (go_simp; done), by first | assumption | (go_simp; done), by first | assumption | (go_simp; done), by first | assumption | (go_simp; done), by first | assumption | (go_simp; done), by first | assumption | (go_simp; done), by first | assumption | (go_simp; done), by first | assumption | (go_simp; done), by first | assumption | (go_simp; done), by first | assumption | (go_simp; done), by first | assumption | (go_simp; done), by first | assumption | (go_simp; done), by first | assumption | (go_simp; done), by first | assumption | (go_simp; done)⟩
              case measure => simp [intOf]
    · cases hw : Rt.valid cn cd with
      | false =>
        have HW := Lib.hid hw
        clear hw
        go_wp2_with fail
        refine (rvalid_any cn cd _).mono ?_
        rw [HW.out]
        rintro e v1 ⟨rfl, hb_v1⟩
        have hB_v1 : Below wr.heap.size wr v1 := below_on (by (repeat (first | assumption | exact Below.refl _ _ | refine below_set ?_ (by first | omega | (simp; done) | (simp; omega)) _ | refine below_drawn ?_ | refine below_drawnN ?_ _ | refine below_new ?_ _))) hb_v1
        have hz_v1 := hb_v1.size
        try simp only [World.size_setCell] at hz_v1
        try simp only [World.size_drew] at hz_v1
        try simp only [World.size_drewN] at hz_v1
        try simp only [World.size_alloc] at hz_v1
        try simp only [World.size_setCell] at hz_v1
        try simp only [World.size_drew] at hz_v1
        try simp only [World.size_drewN] at hz_v1
        try simp only [World.size_alloc] at hz_v1
        have hl0_v1 : w.heap.size < v1.heap.size := by omega
        have hl1_v1 : w.heap.size + 1 < v1.heap.size := by omega
        have hl2_v1 : w.heap.size + 2 < v1.heap.size := by omega
        have hl3_v1 : w2.heap.size < v1.heap.size := by omega
        have hl4_v1 : w4.heap.size < v1.heap.size := by omega
        have hl5_v1 : w5.heap.size + 1 < v1.heap.size := by omega
        have hl6_v1 : wr.heap.size < v1.heap.size := by omega
        have a0_v1 : v1.cell? ⟨w.heap.size, 0, none⟩ = some (.int .i64 an) := below_cell_of hb_v1 (by first | (go_simp; done) | (refine below_cell_of (w := wr) ?_ (by first | assumption | (go_simp; done)); (repeat (first | assumption | exact Below.refl _ _ | refine below_set ?_ (by first | omega | (simp; done) | (simp; omega)) _ | refine below_drawn ?_ | refine below_drawnN ?_ _ | refine below_new ?_ _))))
        have a1_v1 : v1.cell? ⟨w.heap.size, 1, none⟩ = some (.int .i64 ad) := below_cell_of hb_v1 (by first | (go_simp; done) | (refine below_cell_of (w := wr) ?_ (by first | assumption | (go_simp; done)); (repeat (first | assumption | exact Below.refl _ _ | refine below_set ?_ (by first | omega | (simp; done) | (simp; omega)) _ | refine below_drawn ?_ | refine below_drawnN ?_ _ | refine below_new ?_ _))))
        have b0_v1 : v1.cell? ⟨w.heap.size + 1, 0, none⟩ = some (.int .i64 bn) := below_cell_of hb_v1 (by first | (go_simp; done) | (refine below_cell_of (w := wr) ?_ (by first | assumption | (go_simp; done)); (repeat (first | assumption | exact Below.refl _ _ | refine below_set ?_ (by first | omega | (simp; done) | (simp; omega)) _ | refine below_drawn ?_ | refine below_drawnN ?_ _ | refine below_new ?_ _))))
        have b1_v1 : v1.cell? ⟨w.heap.size + 1, 1, none⟩ = some (.int .i64 bd) := below_cell_of hb_v1 (by first | (go_simp; done) | (refine below_cell_of (w := wr) ?_ (by first | assumption | (go_simp; done)); (repeat (first | assumption | exact Below.refl _ _ | refine below_set ?_ (by first | omega | (simp; done) | (simp; omega)) _ | refine below_drawn ?_ | refine below_drawnN ?_ _ | refine below_new ?_ _))))
        have c0_v1 : v1.cell? ⟨w.heap.size + 2, 0, none⟩ = some (.int .i64 cn) := below_cell_of hb_v1 (by first | (go_simp; done) | (refine below_cell_of (w := wr) ?_ (by first | assumption | (go_simp; done)); (repeat (first | assumption | exact Below.refl _ _ | refine below_set ?_ (by first | omega | (simp; done) | (simp; omega)) _ | refine below_drawn ?_ | refine below_drawnN ?_ _ | refine below_new ?_ _))))
        have c1_v1 : v1.cell? ⟨w.heap.size + 2, 1, none⟩ = some (.int .i64 cd) := below_cell_of hb_v1 (by first | (go_simp; done) | (refine below_cell_of (w := wr) ?_ (by first | assumption | (go_simp; done)); (repeat (first | assumption | exact Below.refl _ _ | refine below_set ?_ (by first | omega | (simp; done) | (simp; omega)) _ | refine below_drawn ?_ | refine below_drawnN ?_ _ | refine below_new ?_ _))))
        have s0_v1 : v1.cell? ⟨w2.heap.size, 0, none⟩ = some (.int .i64 sn) := below_cell_of hb_v1 (by first | (go_simp; done) | (refine below_cell_of (w := wr) ?_ (by first | assumption | (go_simp; done)); (repeat (first | assumption | exact Below.refl _ _ | refine below_set ?_ (by first | omega | (simp; done) | (simp; omega)) _ | refine below_drawn ?_ | refine below_drawnN ?_ _ | refine below_new ?_ _))))
        have s1_v1 : v1.cell? ⟨w2.heap.size, 1, none⟩ = some (.int .i64 sd) := below_cell_of hb_v1 (by first | (go_simp; done) | (refine below_cell_of (w := wr) ?_ (by first | assumption | (go_simp; done)); (repeat (first | assumption | exact Below.refl _ _ | refine below_set ?_ (by first | omega | (simp; done) | (simp; omega)) _ | refine below_drawn ?_ | refine below_drawnN ?_ _ | refine below_new ?_ _))))
        have u0_v1 : v1.cell? ⟨w4.heap.size, 0, none⟩ = some (.int .i64 un) := below_cell_of hb_v1 (by first | (go_simp; done) | (refine below_cell_of (w := wr) ?_ (by first | assumption | (go_simp; done)); (repeat (first | assumption | exact Below.refl _ _ | refine below_set ?_ (by first | omega | (simp; done) | (simp; omega)) _ | refine below_drawn ?_ | refine below_drawnN ?_ _ | refine below_new ?_ _))))
        have u1_v1 : v1.cell? ⟨w4.heap.size, 1, none⟩ = some (.int .i64 ud) := below_cell_of hb_v1 (by first | (go_simp; done) | (refine below_cell_of (w := wr) ?_ (by first | assumption | (go_simp; done)); (repeat (first | assumption | exact Below.refl _ _ | refine below_set ?_ (by first | omega | (simp; done) | (simp; omega)) _ | refine below_drawn ?_ | refine below_drawnN ?_ _ | refine below_new ?_ _))))
        have l0_v1 : v1.cell? ⟨w5.heap.size + 1, 0, none⟩ = some (.int .i64 an) := below_cell_of hb_v1 (by first | (go_simp; done) | (refine below_cell_of (w := wr) ?_ (by first | assumption | (go_simp; done)); (repeat (first | assumption | exact Below.refl _ _ | refine below_set ?_ (by first | omega | (simp; done) | (simp; omega)) _ | refine below_drawn ?_ | refine below_drawnN ?_ _ | refine below_new ?_ _))))
        have l1_v1 : v1.cell? ⟨w5.heap.size + 1, 1, none⟩ = some (.int .i64 ad) := below_cell_of hb_v1 (by first | (go_simp; done) | (refine below_cell_of (w := wr) ?_ (by first | assumption | (go_simp; done)); (repeat (first | assumption | exact Below.refl _ _ | refine below_set ?_ (by first | omega | (simp; done) | (simp; omega)) _ | refine below_drawn ?_ | refine below_drawnN ?_ _ | refine below_new ?_ _))))
        have l2_v1 : v1.cell? ⟨w5.heap.size + 1, 2, none⟩ = some (.int .i64 bn) := below_cell_of hb_v1 (by first | (go_simp; done) | (refine below_cell_of (w := wr) ?_ (by first | assumption | (go_simp; done)); (repeat (first | assumption | exact Below.refl _ _ | refine below_set ?_ (by first | omega | (simp; done) | (simp; omega)) _ | refine below_drawn ?_ | refine below_drawnN ?_ _ | refine below_new ?_ _))))
        have l3_v1 : v1.cell? ⟨w5.heap.size + 1, 3, none⟩ = some (.int .i64 bd) := below_cell_of hb_v1 (by first | (go_simp; done) | (refine below_cell_of (w := wr) ?_ (by first | assumption | (go_simp; done)); (repeat (first | assumption | exact Below.refl _ _ | refine below_set ?_ (by first | omega | (simp; done) | (simp; omega)) _ | refine below_drawn ?_ | refine below_drawnN ?_ _ | refine below_new ?_ _))))
        have l4_v1 : v1.cell? ⟨w5.heap.size + 1, 4, none⟩ = some (.int .i64 cn) := below_cell_of hb_v1 (by first | (go_simp; done) | (refine below_cell_of (w := wr) ?_ (by first | assumption | (go_simp; done)); (repeat (first | assumption | exact Below.refl _ _ | refine below_set ?_ (by first | omega | (simp; done) | (simp; omega)) _ | refine below_drawn ?_ | refine below_drawnN ?_ _ | refine below_new ?_ _))))
        have l5_v1 : v1.cell? ⟨w5.heap.size + 1, 5, none⟩ = some (.int .i64 cd) := below_cell_of hb_v1 (by first | (go_simp; done) | (refine below_cell_of (w := wr) ?_ (by first | assumption | (go_simp; done)); (repeat (first | assumption | exact Below.refl _ _ | refine below_set ?_ (by first | omega | (simp; done) | (simp; omega)) _ | refine below_drawn ?_ | refine below_drawnN ?_ _ | refine below_new ?_ _))))
        have x0_v1 : v1.cell? ⟨wr.heap.size, 0, none⟩ = some (.int .i64 cn) := below_cell_of hb_v1 (by first | (go_simp; done) | (refine below_cell_of (w := wr) ?_ (by first | assumption | (go_simp; done)); (repeat (first | assumption | exact Below.refl _ _ | refine below_set ?_ (by first | omega | (simp; done) | (simp; omega)) _ | refine below_drawn ?_ | refine below_drawnN ?_ _ | refine below_new ?_ _))))
        have x1_v1 : v1.cell? ⟨wr.heap.size, 1, none⟩ = some (.int .i64 cd) := below_cell_of hb_v1 (by first | (go_simp; done) | (refine below_cell_of (w := wr) ?_ (by first | assumption | (go_simp; done)); (repeat (first | assumption | exact Below.refl _ _ | refine below_set ?_ (by first | omega | (simp; done) | (simp; omega)) _ | refine below_drawn ?_ | refine below_drawnN ?_ _ | refine below_new ?_ _))))
        go_wp2
        go_ret
        exact ⟨rfl, by exact below_on HB.out (by (repeat (first | assumption | exact Below.refl _ _ | refine below_set ?_ (by first | omega | (simp; done) | (simp; omega)) _ | refine below_drawn ?_ | refine below_drawnN ?_ _ | refine below_new ?_ _)))⟩
      | true =>
        by_cases h1 : cn < -900
        · skip
          have HW := Lib.hid hw
          clear hw
          go_wp2_with fail
          refine (rvalid_any cn cd _).mono ?_
          rw [HW.out]
          rintro e v1 ⟨rfl, hb_v1⟩
          have hB_v1 : Below wr.heap.size wr v1 := below_on (by (repeat (first | assumption | exact Below.refl _ _ | refine below_set ?_ (by first | omega | (simp; done) | (simp; omega)) _ | refine below_drawn ?_ | refine below_drawnN ?_ _ | refine below_new ?_ _))) hb_v1
          have hz_v1 := hb_v1.size
          try simp only [World.size_setCell] at hz_v1
          try simp only [World.size_drew] at hz_v1
          try simp only [World.size_drewN] at hz_v1
          try simp only [World.size_alloc] at hz_v1
          try simp only [World.size_setCell] at hz_v1
          try simp only [World.size_drew] at hz_v1
          try simp only [World.size_drewN] at hz_v1
          try simp only [World.size_alloc] at hz_v1
          have hl0_v1 : w.heap.size < v1.heap.size := by omega
          have hl1_v1 : w.heap.size + 1 < v1.heap.size := by omega
          have hl2_v1 : w.heap.size + 2 < v1.heap.size := by omega
          have hl3_v1 : w2.heap.size < v1.heap.size := by omega
          have hl4_v1 : w4.heap.size < v1.heap.size := by omega
          have hl5_v1 : w5.heap.size + 1 < v1.heap.size := by omega
          have hl6_v1 : wr.heap.size < v1.heap.size := by omega
          have a0_v1 : v1.cell? ⟨w.heap.size, 0, none⟩ = some (.int .i64 an) := below_cell_of hb_v1 (by first | (go_simp; done) | (refine below_cell_of (w := wr) ?_ (by first | assumption | (go_simp; done)); (repeat (first | assumption | exact Below.refl _ _ | refine below_set ?_ (by first | omega | (simp; done) | (simp; omega)) _ | refine below_drawn ?_ | refine below_drawnN ?_ _ | refine below_new ?_ _))))
          have a1_v1 : v1.cell? ⟨w.heap.size, 1, none⟩ = some (.int .i64 ad) := below_cell_of hb_v1 (by first | (go_simp; done) | (refine below_cell_of (w := wr) ?_ (by first | assumption | (go_simp; done)); (repeat (first | assumption | exact Below.refl _ _ | refine below_set ?_ (by first | omega | (simp; done) | (simp; omega)) _ | refine below_drawn ?_ | refine below_drawnN ?_ _ | refine below_new ?_ _))))
          have b0_v1 : v1.cell? ⟨w.heap.size + 1, 0, none⟩ = some (.int .i64 bn) := below_cell_of hb_v1 (by first | (go_simp; done) | (refine below_cell_of (w := wr) ?_ (by first | assumption | (go_simp; done)); (repeat (first | assumption | exact Below.refl _ _ | refine below_set ?_ (by first | omega | (simp; done) | (simp; omega)) _ | refine below_drawn ?_ | refine below_drawnN ?_ _ | refine below_new ?_ _))))
          have b1_v1 : v1.cell? ⟨w.heap.size + 1, 1, none⟩ = some (.int .i64 bd) := below_cell_of hb_v1 (by first | (go_simp; done) | (refine below_cell_of (w := wr) ?_ (by first | assumption | (go_simp; done)); (repeat (first | assumption | exact Below.refl _ _ | refine below_set ?_ (by first | omega | (simp; done) | (simp; omega)) _ | refine below_drawn ?_ | refine below_drawnN ?_ _ | refine below_new ?_ _))))
          have c0_v1 : v1.cell? ⟨w.heap.size + 2, 0, none⟩ = some (.int .i64 cn) := below_cell_of hb_v1 (by first | (go_simp; done) | (refine below_cell_of (w := wr) ?_ (by first | assumption | (go_simp; done)); (repeat (first | assumption | exact Below.refl _ _ | refine below_set ?_ (by first | omega | (simp; done) | (simp; omega)) _ | refine below_drawn ?_ | refine below_drawnN ?_ _ | refine below_new ?_ _))))
          have c1_v1 : v1.cell? ⟨w.heap.size + 2, 1, none⟩ = some (.int .i64 cd) := below_cell_of hb_v1 (by first | (go_simp; done) | (refine below_cell_of (w := wr) ?_ (by first | assumption | (go_simp; done)); (repeat (first | assumption | exact Below.refl _ _ | refine below_set ?_ (by first | omega | (simp; done) | (simp; omega)) _ | refine below_drawn ?_ | refine below_drawnN ?_ _ | refine below_new ?_ _))))
          have s0_v1 : v1.cell? ⟨w2.heap.size, 0, none⟩ = some (.int .i64 sn) := below_cell_of hb_v1 (by first | (go_simp; done) | (refine below_cell_of (w := wr) ?_ (by first | assumption | (go_simp; done)); (repeat (first | assumption | exact Below.refl _ _ | refine below_set ?_ (by first | omega | (simp; done) | (simp; omega)) _ | refine below_drawn ?_ | refine below_drawnN ?_ _ | refine below_new ?_ _))))
          have s1_v1 : v1.cell? ⟨w2.heap.size, 1, none⟩ = some (.int .i64 sd) := below_cell_of hb_v1 (by first | (go_simp; done) | (refine below_cell_of (w := wr) ?_ (by first | assumption | (go_simp; done)); (repeat (first | assumption | exact Below.refl _ _ | refine below_set ?_ (by first | omega | (simp; done) | (simp; omega)) _ | refine below_drawn ?_ | refine below_drawnN ?_ _ | refine below_new ?_ _))))
          have u0_v1 : v1.cell? ⟨w4.heap.size, 0, none⟩ = some (.int .i64 un) := below_cell_of hb_v1 (by first | (go_simp; done) | (refine below_cell_of (w := wr) ?_ (by first | assumption | (go_simp; done)); (repeat (first | assumption | exact Below.refl _ _ | refine below_set ?_ (by first | omega | (simp; done) | (simp; omega)) _ | refine below_drawn ?_ | refine below_drawnN ?_ _ | refine below_new ?_ _))))
          have u1_v1 : v1.cell? ⟨w4.heap.size, 1, none⟩ = some (.int .i64 ud) := below_cell_of hb_v1 (by first | (go_simp; done) | (refine below_cell_of (w := wr) ?_ (by first | assumption | (go_simp; done)); (repeat (first | assumption | exact Below.refl _ _ | refine below_set ?_ (by first | omega | (simp; done) | (simp; omega)) _ | refine below_drawn ?_ | refine below_drawnN ?_ _ | refine below_new ?_ _))))
          have l0_v1 : v1.cell? ⟨w5.heap.size + 1, 0, none⟩ = some (.int .i64 an) := below_cell_of hb_v1 (by first | (go_simp; done) | (refine below_cell_of (w := wr) ?_ (by first | assumption | (go_simp; done)); (repeat (first | assumption | exact Below.refl _ _ | refine below_set ?_ (by first | omega | (simp; done) | (simp; omega)) _ | refine below_drawn ?_ | refine below_drawnN ?_ _ | refine below_new ?_ _))))
          have l1_v1 : v1.cell? ⟨w5.heap.size + 1, 1, none⟩ = some (.int .i64 ad) := below_cell_of hb_v1 (by first | (go_simp; done) | (refine below_cell_of (w := wr) ?_ (by first | assumption | (go_simp; done)); (repeat (first | assumption | exact Below.refl _ _ | refine below_set ?_ (by first | omega | (simp; done) | (simp; omega)) _ | refine below_drawn ?_ | refine below_drawnN ?_ _ | refine below_new ?_ _))))
          have l2_v1 : v1.cell? ⟨w5.heap.size + 1, 2, none⟩ = some (.int .i64 bn) := below_cell_of hb_v1 (by first | (go_simp; done) | (refine below_cell_of (w := wr) ?_ (by first | assumption | (go_simp; done)); (repeat (first | assumption | exact Below.refl _ _ | refine below_set ?_ (by first | omega | (simp; done) | (simp; omega)) _ | refine below_drawn ?_ | refine below_drawnN ?_ _ | refine below_new ?_ _))))
          have l3_v1 : v1.cell? ⟨w5.heap.size + 1, 3, none⟩ = some (.int .i64 bd) := below_cell_of hb_v1 (by first | (go_simp; done) | (refine below_cell_of (w := wr) ?_ (by first | assumption | (go_simp; done)); (repeat (first | assumption | exact Below.refl _ _ | refine below_set ?_ (by first | omega | (simp; done) | (simp; omega)) _ | refine below_drawn ?_ | refine below_drawnN ?_ _ | refine below_new ?_ _))))
          have l4_v1 : v1.cell? ⟨w5.heap.size + 1, 4, none⟩ = some (.int .i64 cn) := below_cell_of hb_v1 (by first | (go_simp; done) | (refine below_cell_of (w := wr) ?_ (by first | assumption | (go_simp; done)); (repeat (first | assumption | exact Below.refl _ _ | refine below_set ?_ (by first | omega | (simp; done) | (simp; omega)) _ | refine below_drawn ?_ | refine below_drawnN ?_ _ | refine below_new ?_ _))))
          have l5_v1 : v1.cell? ⟨w5.heap.size + 1, 5, none⟩ = some (.int .i64 cd) := below_cell_of hb_v1 (by first | (go_simp; done) | (refine below_cell_of (w := wr) ?_ (by first | assumption | (go_simp; done)); (repeat (first | assumption | exact Below.refl _ _ | refine below_set ?_ (by first | omega | (simp; done) | (simp; omega)) _ | refine below_drawn ?_ | refine below_drawnN ?_ _ | refine below_new ?_ _))))
          have x0_v1 : v1.cell? ⟨wr.heap.size, 0, none⟩ = some (.int .i64 cn) := below_cell_of hb_v1 (by first | (go_simp; done) | (refine below_cell_of (w := wr) ?_ (by first | assumption | (go_simp; done)); (repeat (first | assumption | exact Below.refl _ _ | refine below_set ?_ (by first | omega | (simp; done) | (simp; omega)) _ | refine below_drawn ?_ | refine below_drawnN ?_ _ | refine below_new ?_ _))))
          have x1_v1 : v1.cell? ⟨wr.heap.size, 1, none⟩ = some (.int .i64 cd) := below_cell_of hb_v1 (by first | (go_simp; done) | (refine below_cell_of (w := wr) ?_ (by first | assumption | (go_simp; done)); (repeat (first | assumption | exact Below.refl _ _ | refine below_set ?_ (by first | omega | (simp; done) | (simp; omega)) _ | refine below_drawn ?_ | refine below_drawnN ?_ _ | refine below_new ?_ _))))
          go_wp2
          go_ret
          exact ⟨rfl, by exact below_on HB.out (by (repeat (first | assumption | exact Below.refl _ _ | refine below_set ?_ (by first | omega | (simp; done) | (simp; omega)) _ | refine below_drawn ?_ | refine below_drawnN ?_ _ | refine below_new ?_ _)))⟩
        · by_cases h2 : 900 < cn
          · skip
            have HW := Lib.hid hw
            clear hw
            go_wp2_with fail
            refine (rvalid_any cn cd _).mono ?_
            rw [HW.out]
            rintro e v1 ⟨rfl, hb_v1⟩
            have hB_v1 : Below wr.heap.size wr v1 := below_on (by (repeat (first | assumption | exact Below.refl _ _ | refine below_set ?_ (by first | omega | (simp; done) | (simp; omega)) _ | refine below_drawn ?_ | refine below_drawnN ?_ _ | refine below_new ?_ _))) hb_v1
            have hz_v1 := hb_v1.size
            try simp only [World.size_setCell] at hz_v1
            try simp only [World.size_drew] at hz_v1
            try simp only [World.size_drewN] at hz_v1
            try simp only [World.size_alloc] at hz_v1
            try simp only [World.size_setCell] at hz_v1
            try simp only [World.size_drew] at hz_v1
            try simp only [World.size_drewN] at hz_v1
            try simp only [World.size_alloc] at hz_v1
            have hl0_v1 : w.heap.size < v1.heap.size := by omega
            have hl1_v1 : w.heap.size + 1 < v1.heap.size := by omega
            have hl2_v1 : w.heap.size + 2 < v1.heap.size := by omega
            have hl3_v1 : w2.heap.size < v1.heap.size := by omega
            have hl4_v1 : w4.heap.size < v1.heap.size := by omega
            have hl5_v1 : w5.heap.size + 1 < v1.heap.size := by omega
            have hl6_v1 : wr.heap.size < v1.heap.size := by omega
            have a0_v1 : v1.cell? ⟨w.heap.size, 0, none⟩ = some (.int .i64 an) := below_cell_of hb_v1 (by first | (go_simp; done) | (refine below_cell_of (w := wr) ?_ (by first | assumption | (go_simp; done)); (repeat (first | assumption | exact Below.refl _ _ | refine below_set ?_ (by first | omega | (simp; done) | (simp; omega)) _ | refine below_drawn ?_ | refine below_drawnN ?_ _ | refine below_new ?_ _))))
            have a1_v1 : v1.cell? ⟨w.heap.size, 1, none⟩ = some (.int .i64 ad) := below_cell_of hb_v1 (by first | (go_simp; done) | (refine below_cell_of (w := wr) ?_ (by first | assumption | (go_simp; done)); (repeat (first | assumption | exact Below.refl _ _ | refine below_set ?_ (by first | omega | (simp; done) | (simp; omega)) _ | refine below_drawn ?_ | refine below_drawnN ?_ _ | refine below_new ?_ _))))
            have b0_v1 : v1.cell? ⟨w.heap.size + 1, 0, none⟩ = some (.int .i64 bn) := below_cell_of hb_v1 (by first | (go_simp; done) | (refine below_cell_of (w := wr) ?_ (by first | assumption | (go_simp; done)); (repeat (first | assumption | exact Below.refl _ _ | refine below_set ?_ (by first | omega | (simp; done) | (simp; omega)) _ | refine below_drawn ?_ | refine below_drawnN ?_ _ | refine below_new ?_ _))))
            have b1_v1 : v1.cell? ⟨w.heap.size + 1, 1, none⟩ = some (.int .i64 bd) := below_cell_of hb_v1 (by first | (go_simp; done) | (refine below_cell_of (w := wr) ?_ (by first | assumption | (go_simp; done)); (repeat (first | assumption | exact Below.refl _ _ | refine below_set ?_ (by first | omega | (simp; done) | (simp; omega)) _ | refine below_drawn ?_ | refine below_drawnN ?_ _ | refine below_new ?_ _))))
            have c0_v1 : v1.cell? ⟨w.heap.size + 2, 0, none⟩ = some (.int .i64 cn) := below_cell_of hb_v1 (by first | (go_simp; done) | (refine below_cell_of (w := wr) ?_ (by first | assumption | (go_simp; done)); (repeat (first | assumption | exact Below.refl _ _ | refine below_set ?_ (by first | omega | (simp; done) | (simp; omega)) _ | refine below_drawn ?_ | refine below_drawnN ?_ _ | refine below_new ?_ _))))
            have c1_v1 : v1.cell? ⟨w.heap.size + 2, 1, none⟩ = some (.int .i64 cd) := below_cell_of hb_v1 (by first | (go_simp; done) | (refine below_cell_of (w := wr) ?_ (by first | assumption | (go_simp; done)); (repeat (first | assumption | exact Below.refl _ _ | refine below_set ?_ (by first | omega | (simp; done) | (simp; omega)) _ | refine below_drawn ?_ | refine below_drawnN ?_ _ | refine below_new ?_ _))))
            have s0_v1 : v1.cell? ⟨w2.heap.size, 0, none⟩ = some (.int .i64 sn) := below_cell_of hb_v1 (by first | (go_simp; done) | (refine below_cell_of (w := wr) ?_ (by first | assumption | (go_simp; done)); (repeat (first | assumption | exact Below.refl _ _ | refine below_set ?_ (by first | omega | (simp; done) | (simp; omega)) _ | refine below_drawn ?_ | refine below_drawnN ?_ _ | refine below_new ?_ _))))
            have s1_v1 : v1.cell? ⟨w2.heap.size, 1, none⟩ = some (.int .i64 sd) := below_cell_of hb_v1 (by first | (go_simp; done) | (refine below_cell_of (w := wr) ?_ (by first | assumption | (go_simp; done)); (repeat (first | assumption | exact Below.refl _ _ | refine below_set ?_ (by first | omega | (simp; done) | (simp; omega)) _ | refine below_drawn ?_ | refine below_drawnN ?_ _ | refine below_new ?_ _))))
            have u0_v1 : v1.cell? ⟨w4.heap.size, 0, none⟩ = some (.int .i64 un) := below_cell_of hb_v1 (by first | (go_simp; done) | (refine below_cell_of (w := wr) ?_ (by first | assumption | (go_simp; done)); (repeat (first | assumption | exact Below.refl _ _ | refine below_set ?_ (by first | omega | (simp; done) | (simp; omega)) _ | refine below_drawn ?_ | refine below_drawnN ?_ _ | refine below_new ?_ _))))
            have u1_v1 : v1.cell? ⟨w4.heap.size, 1, none⟩ = some (.int .i64 ud) := below_cell_of hb_v1 (by first | (go_simp; done) | (refine below_cell_of (w := wr) ?_ (by first | assumption | (go_simp; done)); (repeat (first | assumption | exact Below.refl _ _ | refine below_set ?_ (by first | omega | (simp; done) | (simp; omega)) _ | refine below_drawn ?_ | refine below_drawnN ?_ _ | refine below_new ?_ _))))
            have l0_v1 : v1.cell? ⟨w5.heap.size + 1, 0, none⟩ = some (.int .i64 an) := below_cell_of hb_v1 (by first | (go_simp; done) | (refine below_cell_of (w := wr) ?_ (by first | assumption | (go_simp; done)); (repeat (first | assumption | exact Below.refl _ _ | refine below_set ?_ (by first | omega | (simp; done) | (simp; omega)) _ | refine below_drawn ?_ | refine below_drawnN ?_ _ | refine below_new ?_ _))))
            have l1_v1 : v1.cell? ⟨w5.heap.size + 1, 1, none⟩ = some (.int .i64 ad) := below_cell_of hb_v1 (by first | (go_simp; done) | (refine below_cell_of (w := wr) ?_ (by first | assumption | (go_simp; done)); (repeat (first | assumption | exact Below.refl _ _ | refine below_set ?_ (by first | omega | (simp; done) | (simp; omega)) _ | refine below_drawn ?_ | refine below_drawnN ?_ _ | refine below_new ?_ _))))
            have l2_v1 : v1.cell? ⟨w5.heap.size + 1, 2, none⟩ = some (.int .i64 bn) := below_cell_of hb_v1 (by first | (go_simp; done) | (refine below_cell_of (w := wr) ?_ (by first | assumption | (go_simp; done)); (repeat (first | assumption | exact Below.refl _ _ | refine below_set ?_ (by first | omega | (simp; done) | (simp; omega)) _ | refine below_drawn ?_ | refine below_drawnN ?_ _ | refine below_new ?_ _))))
            have l3_v1 : v1.cell? ⟨w5.heap.size + 1, 3, none⟩ = some (.int .i64 bd) := below_cell_of hb_v1 (by first | (go_simp; done) | (refine below_cell_of (w := wr) ?_ (by first | assumption | (go_simp; done)); (repeat (first | assumption | exact Below.refl _ _ | refine below_set ?_ (by first | omega | (simp; done) | (simp; omega)) _ | refine below_drawn ?_ | refine below_drawnN ?_ _ | refine below_new ?_ _))))
            have l4_v1 : v1.cell? ⟨w5.heap.size + 1, 4, none⟩ = some (.int .i64 cn) := below_cell_of hb_v1 (by first | (go_simp; done) | (refine below_cell_of (w := wr) ?_ (by first | assumption | (go_simp; done)); (repeat (first | assumption | exact Below.refl _ _ | refine below_set ?_ (by first | omega | (simp; done) | (simp; omega)) _ | refine below_drawn ?_ | refine below_drawnN ?_ _ | refine below_new ?_ _))))
            have l5_v1 : v1.cell? ⟨w5.heap.size + 1, 5, none⟩ = some (.int .i64 cd) := below_cell_of hb_v1 (by first | (go_simp; done) | (refine below_cell_of (w := wr) ?_ (by first | assumption | (go_simp; done)); (repeat (first | assumption | exact Below.refl _ _ | refine below_set ?_ (by first | omega | (simp; done) | (simp; omega)) _ | refine below_drawn ?_ | refine below_drawnN ?_ _ | refine below_new ?_ _))))
            have x0_v1 : v1.cell? ⟨wr.heap.size, 0, none⟩ = some (.int .i64 cn) := below_cell_of hb_v1 (by first | (go_simp; done) | (refine below_cell_of (w := wr) ?_ (by first | assumption | (go_simp; done)); (repeat (first | assumption | exact Below.refl _ _ | refine below_set ?_ (by first | omega | (simp; done) | (simp; omega)) _ | refine below_drawn ?_ | refine below_drawnN ?_ _ | refine below_new ?_ _))))
            have x1_v1 : v1.cell? ⟨wr.heap.size, 1, none⟩ = some (.int .i64 cd) := below_cell_of hb_v1 (by first | (go_simp; done) | (refine below_cell_of (w := wr) ?_ (by first | assumption | (go_simp; done)); (repeat (first | assumption | exact Below.refl _ _ | refine below_set ?_ (by first | omega | (simp; done) | (simp; omega)) _ | refine below_drawn ?_ | refine below_drawnN ?_ _ | refine below_new ?_ _))))
            go_wp2
            go_ret
            exact ⟨rfl, by exact below_on HB.out (by (repeat (first | assumption | exact Below.refl _ _ | refine below_set ?_ (by first | omega | (simp; done) | (simp; omega)) _ | refine below_drawn ?_ | refine below_drawnN ?_ _ | refine below_new ?_ _)))⟩
          · by_cases h3 : 900 < cd
            · skip
              have HW := Lib.hid hw
              clear hw
              go_wp2_with fail
              refine (rvalid_any cn cd _).mono ?_
              rw [HW.out]
              rintro e v1 ⟨rfl, hb_v1⟩
              have hB_v1 : Below wr.heap.size wr v1 := below_on (by (repeat (first | assumption | exact Below.refl _ _ | refine below_set ?_ (by first | omega | (simp; done) | (simp; omega)) _ | refine below_drawn ?_ | refine below_drawnN ?_ _ | refine below_new ?_ _))) hb_v1
              have hz_v1 := hb_v1.size
              try simp only [World.size_setCell] at hz_v1
              try simp only [World.size_drew] at hz_v1
              try simp only [World.size_drewN] at hz_v1
              try simp only [World.size_alloc] at hz_v1
              try simp only [World.size_setCell] at hz_v1
              try simp only [World.size_drew] at hz_v1
              try simp only [World.size_drewN] at hz_v1
              try simp only [World.size_alloc] at hz_v1
              have hl0_v1 : w.heap.size < v1.heap.size := by omega
              have hl1_v1 : w.heap.size + 1 < v1.heap.size := by omega
              have hl2_v1 : w.heap.size + 2 < v1.heap.size := by omega
              have hl3_v1 : w2.heap.size < v1.heap.size := by omega
              have hl4_v1 : w4.heap.size < v1.heap.size := by omega
              have hl5_v1 : w5.heap.size + 1 < v1.heap.size := by omega
              have hl6_v1 : wr.heap.size < v1.heap.size := by omega
              have a0_v1 : v1.cell? ⟨w.heap.size, 0, none⟩ = some (.int .i64 an) := below_cell_of hb_v1 (by first | (go_simp; done) | (refine below_cell_of (w := wr) ?_ (by first | assumption | (go_simp; done)); (repeat (first | assumption | exact Below.refl _ _ | refine below_set ?_ (by first | omega | (simp; done) | (simp; omega)) _ | refine below_drawn ?_ | refine below_drawnN ?_ _ | refine below_new ?_ _))))
              have a1_v1 : v1.cell? ⟨w.heap.size, 1, none⟩ = some (.int .i64 ad) := below_cell_of hb_v1 (by first | (go_simp; done) | (refine below_cell_of (w := wr) ?_ (by first | assumption | (go_simp; done)); (repeat (first | assumption | exact Below.refl _ _ | refine below_set ?_ (by first | omega | (simp; done) | (simp; omega)) _ | refine below_drawn ?_ | refine below_drawnN ?_ _ | refine below_new ?_ _))))
              have b0_v1 : v1.cell? ⟨w.heap.size + 1, 0, none⟩ = some (.int .i64 bn) := below_cell_of hb_v1 (by first | (go_simp; done) | (refine below_cell_of (w := wr) ?_ (by first | assumption | (go_simp; done)); (repeat (first | assumption | exact Below.refl _ _ | refine below_set ?_ (by first | omega | (simp; done) | (simp; omega)) _ | refine below_drawn ?_ | refine below_drawnN ?_ _ | refine below_new ?_ _))))
              have b1_v1 : v1.cell? ⟨w.heap.size + 1, 1, none⟩ = some (.int .i64 bd) := below_cell_of hb_v1 (by first | (go_simp; done) | (refine below_cell_of (w := wr) ?_ (by first | assumption | (go_simp; done)); (repeat (first | assumption | exact Below.refl _ _ | refine below_set ?_ (by first | omega | (simp; done) | (simp; omega)) _ | refine below_drawn ?_ | refine below_drawnN ?_ _ | refine below_new ?_ _))))
              have c0_v1 : v1.cell? ⟨w.heap.size + 2, 0, none⟩ = some (.int .i64 cn) := below_cell_of hb_v1 (by first | (go_simp; done) | (refine below_cell_of (w := wr) ?_ (by first | assumption | (go_simp; done)); (repeat (first | assumption | exact Below.refl _ _ | refine below_set ?_ (by first | omega | (simp; done) | (simp; omega)) _ | refine below_drawn ?_ | refine below_drawnN ?_ _ | refine below_new ?_ _))))
              have c1_v1 : v1.cell? ⟨w.heap.size + 2, 1, none⟩ = some (.int .i64 cd) := below_cell_of hb_v1 (by first | (go_simp; done) | (refine below_cell_of (w := wr) ?_ (by first | assumption | (go_simp; done)); (repeat (first | assumption | exact Below.refl _ _ | refine below_set ?_ (by first | omega | (simp; done) | (simp; omega)) _ | refine below_drawn ?_ | refine below_drawnN ?_ _ | refine below_new ?_ _))))
              have s0_v1 : v1.cell? ⟨w2.heap.size, 0, none⟩ = some (.int .i64 sn) := below_cell_of hb_v1 (by first | (go_simp; done) | (refine below_cell_of (w := wr) ?_ (by first | assumption | (go_simp; done)); (repeat (first | assumption | exact Below.refl _ _ | refine below_set ?_ (by first | omega | (simp; done) | (simp; omega)) _ | refine below_drawn ?_ | refine below_drawnN ?_ _ | refine below_new ?_ _))))
              have s1_v1 : v1.cell? ⟨w2.heap.size, 1, none⟩ = some (.int .i64 sd) := below_cell_of hb_v1 (by first | (go_simp; done) | (refine below_cell_of (w := wr) ?_ (by first | assumption | (go_simp; done)); (repeat (first | assumption | exact Below.refl _ _ | refine below_set ?_ (by first | omega | (simp; done) | (simp; omega)) _ | refine below_drawn ?_ | refine below_drawnN ?_ _ | refine below_new ?_ _))))
              have u0_v1 : v1.cell? ⟨w4.heap.size, 0, none⟩ = some (.int .i64 un) := below_cell_of hb_v1 (by first | (go_simp; done) | (refine below_cell_of (w := wr) ?_ (by first | assumption | (go_simp; done)); (repeat (first | assumption | exact Below.refl _ _ | refine below_set ?_ (by first | omega | (simp; done) | (simp; omega)) _ | refine below_drawn ?_ | refine below_drawnN ?_ _ | refine below_new ?_ _))))
              have u1_v1 : v1.cell? ⟨w4.heap.size, 1, none⟩ = some (.int .i64 ud) := below_cell_of hb_v1 (by first | (go_simp; done) | (refine below_cell_of (w := wr) ?_ (by first | assumption | (go_simp; done)); (repeat (first | assumption | exact Below.refl _ _ | refine below_set ?_ (by first | omega | (simp; done) | (simp; omega)) _ | refine below_drawn ?_ | refine below_drawnN ?_ _ | refine below_new ?_ _))))
              have l0_v1 : v1.cell? ⟨w5.heap.size + 1, 0, none⟩ = some (.int .i64 an) := below_cell_of hb_v1 (by first | (go_simp; done) | (refine below_cell_of (w := wr) ?_ (by first | assumption | (go_simp; done)); (repeat (first | assumption | exact Below.refl _ _ | refine below_set ?_ (by first | omega | (simp; done) | (simp; omega)) _ | refine below_drawn ?_ | refine below_drawnN ?_ _ | refine below_new ?_ _))))
              have l1_v1 : v1.cell? ⟨w5.heap.size + 1, 1, none⟩ = some (.int .i64 ad) := below_cell_of hb_v1 (by first | (go_simp; done) | (refine below_cell_of (w := wr) ?_ (by first | assumption | (go_simp; done)); (repeat (first | assumption | exact Below.refl _ _ | refine below_set ?_ (by first | omega | (simp; done) | (simp; omega)) _ | refine below_drawn ?_ | refine below_drawnN ?_ _ | refine below_new ?_ _))))
              have l2_v1 : v1.cell? ⟨w5.heap.size + 1, 2, none⟩ = some (.int .i64 bn) := below_cell_of hb_v1 (by first | (go_simp; done) | (refine below_cell_of (w := wr) ?_ (by first | assumption | (go_simp; done)); (repeat (first | assumption | exact Below.refl _ _ | refine below_set ?_ (by first | omega | (simp; done) | (simp; omega)) _ | refine below_drawn ?_ | refine below_drawnN ?_ _ | refine below_new ?_ _))))
              have l3_v1 : v1.cell? ⟨w5.heap.size + 1, 3, none⟩ = some (.int .i64 bd) := below_cell_of hb_v1 (by first | (go_simp; done) | (refine below_cell_of (w := wr) ?_ (by first | assumption | (go_simp; done)); (repeat (first | assumption | exact Below.refl _ _ | refine below_set ?_ (by first | omega | (simp; done) | (simp; omega)) _ | refine below_drawn ?_ | refine below_drawnN ?_ _ | refine below_new ?_ _))))
              have l4_v1 : v1.cell? ⟨w5.heap.size + 1, 4, none⟩ = some (.int .i64 cn) := below_cell_of hb_v1 (by first | (go_simp; done) | (refine below_cell_of (w := wr) ?_ (by first | assumption | (go_simp; done)); (repeat (first | assumption | exact Below.refl _ _ | refine below_set ?_ (by first | omega | (simp; done) | (simp; omega)) _ | refine below_drawn ?_ | refine below_drawnN ?_ _ | refine below_new ?_ _))))
              have l5_v1 : v1.cell? ⟨w5.heap.size + 1, 5, none⟩ = some (.int .i64 cd) := below_cell_of hb_v1 (by first | (go_simp; done) | (refine below_cell_of (w := wr) ?_ (by first | assumption | (go_simp; done)); (repeat (first | assumption | exact Below.refl _ _ | refine below_set ?_ (by first | omega | (simp; done) | (simp; omega)) _ | refine below_drawn ?_ | refine below_drawnN ?_ _ | refine below_new ?_ _))))
              have x0_v1 : v1.cell? ⟨wr.heap.size, 0, none⟩ = some (.int .i64 cn) := below_cell_of hb_v1 (by first | (go_simp; done) | (refine below_cell_of (w := wr) ?_ (by first | assumption | (go_simp; done)); (repeat (first | assumption | exact Below.refl _ _ | refine below_set ?_ (by first | omega | (simp; done) | (simp; omega)) _ | refine below_drawn ?_ | refine below_drawnN ?_ _ | refine below_new ?_ _))))
              have x1_v1 : v1.cell? ⟨wr.heap.size, 1, none⟩ = some (.int .i64 cd) := below_cell_of hb_v1 (by first | (go_simp; done) | (refine below_cell_of (w := wr) ?_ (by first | assumption | (go_simp; done)); (repeat (first | assumption | exact Below.refl _ _ | refine below_set ?_ (by first | omega | (simp; done) | (simp; omega)) _ | refine below_drawn ?_ | refine below_drawnN ?_ _ | refine below_new ?_ _))))
              go_wp2
              go_ret
              exact ⟨rfl, by exact below_on HB.out (by (repeat (first | assumption | exact Below.refl _ _ | refine below_set ?_ (by first | omega | (simp; done) | (simp; omega)) _ | refine below_drawn ?_ | refine below_drawnN ?_ _ | refine below_new ?_ _)))⟩
            · skip
              have HW := Lib.hid hw
              clear hw
              go_wp2_with fail
              refine (rvalid_any cn cd _).mono ?_
              rw [HW.out]
              rintro e v1 ⟨rfl, hb_v1⟩
              have hB_v1 : Below wr.heap.size wr v1 := below_on (by (repeat (first | assumption | exact Below.refl _ _ | refine below_set ?_ (by first | omega | (simp; done) | (simp; omega)) _ | refine below_drawn ?_ | refine below_drawnN ?_ _ | refine below_new ?_ _))) hb_v1
              have hz_v1 := hb_v1.size
              try simp only [World.size_setCell] at hz_v1
              try simp only [World.size_drew] at hz_v1
              try simp only [World.size_drewN] at hz_v1
              try simp only [World.size_alloc] at hz_v1
              try simp only [World.size_setCell] at hz_v1
              try simp only [World.size_drew] at hz_v1
              try simp only [World.size_drewN] at hz_v1
              try simp only [World.size_alloc] at hz_v1
              have hl0_v1 : w.heap.size < v1.heap.size := by omega
              have hl1_v1 : w.heap.size + 1 < v1.heap.size := by omega
              have hl2_v1 : w.heap.size + 2 < v1.heap.size := by omega
              have hl3_v1 : w2.heap.size < v1.heap.size := by omega
              have hl4_v1 : w4.heap.size < v1.heap.size := by omega
              have hl5_v1 : w5.heap.size + 1 < v1.heap.size := by omega
              have hl6_v1 : wr.heap.size < v1.heap.size := by omega
              have a0_v1 : v1.cell? ⟨w.heap.size, 0, none⟩ = some (.int .i64 an) := below_cell_of hb_v1 (by first | (go_simp; done) | (refine below_cell_of (w := wr) ?_ (by first | assumption | (go_simp; done)); (repeat (first | assumption | exact Below.refl _ _ | refine below_set ?_ (by first | omega | (simp; done) | (simp; omega)) _ | refine below_drawn ?_ | refine below_drawnN ?_ _ | refine below_new ?_ _))))
              have a1_v1 : v1.cell? ⟨w.heap.size, 1, none⟩ = some (.int .i64 ad) := below_cell_of hb_v1 (by first | (go_simp; done) | (refine below_cell_of (w := wr) ?_ (by first | assumption | (go_simp; done)); (repeat (first | assumption | exact Below.refl _ _ | refine below_set ?_ (by first | omega | (simp; done) | (simp; omega)) _ | refine below_drawn ?_ | refine below_drawnN ?_ _ | refine below_new ?_ _))))
              have b0_v1 : v1.cell? ⟨w.heap.size + 1, 0, none⟩ = some (.int .i64 bn) := below_cell_of hb_v1 (by first | (go_simp; done) | (refine below_cell_of (w := wr) ?_ (by first | assumption | (go_simp; done)); (repeat (first | assumption | exact Below.refl _ _ | refine below_set ?_ (by first | omega | (simp; done) | (simp; omega)) _ | refine below_drawn ?_ | refine below_drawnN ?_ _ | refine below_new ?_ _))))
              have b1_v1 : v1.cell? ⟨w.heap.size + 1, 1, none⟩ = some (.int .i64 bd) := below_cell_of hb_v1 (by first | (go_simp; done) | (refine below_cell_of (w := wr) ?_ (by first | assumption | (go_simp; done)); (repeat (first | assumption | exact Below.refl _ _ | refine below_set ?_ (by first | omega | (simp; done) | (simp; omega)) _ | refine below_drawn ?_ | refine below_drawnN ?_ _ | refine below_new ?_ _))))
              have c0_v1 : v1.cell? ⟨w.heap.size + 2, 0, none⟩ = some (.int .i64 cn) := below_cell_of hb_v1 (by first | (go_simp; done) | (refine below_cell_of (w := wr) ?_ (by first | assumption | (go_simp; done)); (repeat (first | assumption | exact Below.refl _ _ | refine below_set ?_ (by first | omega | (simp; done) | (simp; omega)) _ | refine below_drawn ?_ | refine below_drawnN ?_ _ | refine below_new ?_ _))))
              have c1_v1 : v1.cell? ⟨w.heap.size + 2, 1, none⟩ = some (.int .i64 cd) := below_cell_of hb_v1 (by first | (go_simp; done) | (refine below_cell_of (w := wr) ?_ (by first | assumption | (go_simp; done)); (repeat (first | assumption | exact Below.refl _ _ | refine below_set ?_ (by first | omega | (simp; done) | (simp; omega)) _ | refine below_drawn ?_ | refine below_drawnN ?_ _ | refine below_new ?_ _))))
              have s0_v1 : v1.cell? ⟨w2.heap.size, 0, none⟩ = some (.int .i64 sn) := below_cell_of hb_v1 (by first | (go_simp; done) | (refine below_cell_of (w := wr) ?_ (by first | assumption | (go_simp; done)); (repeat (first | assumption | exact Below.refl _ _ | refine below_set ?_ (by first | omega | (simp; done) | (simp; omega)) _ | refine below_drawn ?_ | refine below_drawnN ?_ _ | refine below_new ?_ _))))
              have s1_v1 : v1.cell? ⟨w2.heap.size, 1, none⟩ = some (.int .i64 sd) := below_cell_of hb_v1 (by first | (go_simp; done) | (refine below_cell_of (w := wr) ?_ (by first | assumption | (go_simp; done)); (repeat (first | assumption | exact Below.refl _ _ | refine below_set ?_ (by first | omega | (simp; done) | (simp; omega)) _ | refine below_drawn ?_ | refine below_drawnN ?_ _ | refine below_new ?_ _))))
              have u0_v1 : v1.cell? ⟨w4.heap.size, 0, none⟩ = some (.int .i64 un) := below_cell_of hb_v1 (by first | (go_simp; done) | (refine below_cell_of (w := wr) ?_ (by first | assumption | (go_simp; done)); (repeat (first | assumption | exact Below.refl _ _ | refine below_set ?_ (by first | omega | (simp; done) | (simp; omega)) _ | refine below_drawn ?_ | refine below_drawnN ?_ _ | refine below_new ?_ _))))
              have u1_v1 : v1.cell? ⟨w4.heap.size, 1, none⟩ = some (.int .i64 ud) := below_cell_of hb_v1 (by first | (go_simp; done) | (refine below_cell_of (w := wr) ?_ (by first | assumption | (go_simp; done)); (repeat (first | assumption | exact Below.refl _ _ | refine below_set ?_ (by first | omega | (simp; done) | (simp; omega)) _ | refine below_drawn ?_ | refine below_drawnN ?_ _ | refine below_new ?_ _))))
              have l0_v1 : v1.cell? ⟨w5.heap.size + 1, 0, none⟩ = some (.int .i64 an) := below_cell_of hb_v1 (by first | (go_simp; done) | (refine below_cell_of (w := wr) ?_ (by first | assumption | (go_simp; done)); (repeat (first | assumption | exact Below.refl _ _ | refine below_set ?_ (by first | omega | (simp; done) | (simp; omega)) _ | refine below_drawn ?_ | refine below_drawnN ?_ _ | refine below_new ?_ _))))
              have l1_v1 : v1.cell? ⟨w5.heap.size + 1, 1, none⟩ = some (.int .i64 ad) := below_cell_of hb_v1 (by first | (go_simp; done) | (refine below_cell_of (w := wr) ?_ (by first | assumption | (go_simp; done)); (repeat (first | assumption | exact Below.refl _ _ | refine below_set ?_ (by first | omega | (simp; done) | (simp; omega)) _ | refine below_drawn ?_ | refine below_drawnN ?_ _ | refine below_new ?_ _))))
              have l2_v1 : v1.cell? ⟨w5.heap.size + 1, 2, none⟩ = some (.int .i64 bn) := below_cell_of hb_v1 (by first | (go_simp; done) | (refine below_cell_of (w := wr) ?_ (by first | assumption | (go_simp; done)); (repeat (first | assumption | exact Below.refl _ _ | refine below_set ?_ (by first | omega | (simp; done) | (simp; omega)) _ | refine below_drawn ?_ | refine below_drawnN ?_ _ | refine below_new ?_ _))))
              have l3_v1 : v1.cell? ⟨w5.heap.size + 1, 3, none⟩ = some (.int .i64 bd) := below_cell_of hb_v1 (by first | (go_simp; done) | (refine below_cell_of (w := wr) ?_ (by first | assumption | (go_simp; done)); (repeat (first | assumption | exact Below.refl _ _ | refine below_set ?_ (by first | omega | (simp; done) | (simp; omega)) _ | refine below_drawn ?_ | refine below_drawnN ?_ _ | refine below_new ?_ _))))
              have l4_v1 : v1.cell? ⟨w5.heap.size + 1, 4, none⟩ = some (.int .i64 cn) := below_cell_of hb_v1 (by first | (go_simp; done) | (refine below_cell_of (w := wr) ?_ (by first | assumption | (go_simp; done)); (repeat (first | assumption | exact Below.refl _ _ | refine below_set ?_ (by first | omega | (simp; done) | (simp; omega)) _ | refine below_drawn ?_ | refine below_drawnN ?_ _ | refine below_new ?_ _))))
              have l5_v1 : v1.cell? ⟨w5.heap.size + 1, 5, none⟩ = some (.int .i64 cd) := below_cell_of hb_v1 (by first | (go_simp; done) | (refine below_cell_of (w := wr) ?_ (by first | assumption | (go_simp; done)); (repeat (first | assumption | exact Below.refl _ _ | refine below_set ?_ (by first | omega | (simp; done) | (simp; omega)) _ | refine below_drawn ?_ | refine below_drawnN ?_ _ | refine below_new ?_ _))))
              have x0_v1 : v1.cell? ⟨wr.heap.size, 0, none⟩ = some (.int .i64 cn) := below_cell_of hb_v1 (by first | (go_simp; done) | (refine below_cell_of (w := wr) ?_ (by first | assumption | (go_simp; done)); (repeat (first | assumption | exact Below.refl _ _ | refine below_set ?_ (by first | omega | (simp; done) | (simp; omega)) _ | refine below_drawn ?_ | refine below_drawnN ?_ _ | refine below_new ?_ _))))
              have x1_v1 : v1.cell? ⟨wr.heap.size, 1, none⟩ = some (.int .i64 cd) := below_cell_of hb_v1 (by first | (go_simp; done) | (refine below_cell_of (w := wr) ?_ (by first | assumption | (go_simp; done)); (repeat (first | assumption | exact Below.refl _ _ | refine below_set ?_ (by first | omega | (simp; done) | (simp; omega)) _ | refine below_drawn ?_ | refine below_drawnN ?_ _ | refine below_new ?_ _))))
              go_wp2
              go_roundw
              case rel => exact ⟨3, by omega, by go_num, fun h => HT0.out (by omega), fun h => HT1.out (by omega), fun _ => tiny_of HW.out (by omega) (by omega) (by omega), by go_simp; (try omega), by exact below_on HB.out (by (repeat (first | assumption | exact Below.refl _ _ | refine below_set ?_ (by first | omega | (simp; done) | (simp; omega)) _ | refine below_drawn ?_ | refine below_drawnN ?_ _ | refine below_new ?_ _))), by first | assumption | (go_simp; done), by first | assumption | (go_simp; done), by first | assumption | (go_simp; done), by first | assumption | (go_simp; done), by first | assumption | (go_simp; done), by first | assumption | (go_simp; done), by first | assumption | (go_simp; done), by first | assumption | (go_simp; done), by first | assumption | (go_simp; done), by first | assumption | (go_simp; done), by first | assumption | (go_simp; done), by first | assumption | (go_simp; done), by first | assumption | (go_simp; done), by first | assumption | (go_simp; done), by first | assumption | (go_simp; done), by first | assumption | (go_simp; done)⟩
              case measure => simp [intOf]
    · obtain ⟨rfl, rfl, xn, xd, xe, yn, yd, mn, md, me, on, od, dn, dd, de, wn, wd, q1, q2, q3, q4, q5, e1, e2, e3, e4, e5, e6, e7, e8, e9⟩ := HGOOD.out (HT0.out (by omega)) (HT1.out (by omega)) (HT2.out (by omega))
      have E1 := Lib.hid e1
      have E2 := Lib.hid e2
      have E3 := Lib.hid e3
      have E4 := Lib.hid e4
      have E5 := Lib.hid e5
      have E6 := Lib.hid e6
      have E7 := Lib.hid e7
      have E8 := Lib.hid e8
      have E9 := Lib.hid e9
      clear e1 e2 e3 e4 e5 e6 e7 e8 e9 HGOOD l0_wr l1_wr l2_wr l3_wr l4_wr l5_wr
      go_wp2_with fail
      refine (add_any sn sd cn cd _ (by omega) (by omega)).mono ?_
      rw [E1.out]
      rintro e x1 ⟨rfl, hb_x1⟩
      have hB_x1 : Below wr.heap.size wr x1 := below_on (by (repeat (first | assumption | exact Below.refl _ _ | refine below_set ?_ (by first | omega | (simp; done) | (simp; omega)) _ | refine below_drawn ?_ | refine below_drawnN ?_ _ | refine below_new ?_ _))) hb_x1
      have hz_x1 := hb_x1.size
      try simp only [World.size_setCell] at hz_x1
      try simp only [World.size_drew] at hz_x1
      try simp only [World.size_drewN] at hz_x1
      try simp only [World.size_alloc] at hz_x1
      try simp only [World.size_setCell] at hz_x1
      try simp only [World.size_drew] at hz_x1
      try simp only [World.size_drewN] at hz_x1
      try simp only [World.size_alloc] at hz_x1
      have hl0_x1 : w.heap.size < x1.heap.size := by omega
      have hl1_x1 : w.heap.size + 1 < x1.heap.size := by omega
      have hl2_x1 : w.heap.size + 2 < x1.heap.size := by omega
      have hl3_x1 : w2.heap.size < x1.heap.size := by omega
      have hl4_x1 : w4.heap.size < x1.heap.size := by omega
      have a0_x1 : x1.cell? ⟨w.heap.size, 0, none⟩ = some (.int .i64 an) := below_cell_of hb_x1 (by first | (go_simp; done) | (refine below_cell_of (w := wr) ?_ (by first | assumption | (go_simp; done)); (repeat (first | assumption | exact Below.refl _ _ | refine below_set ?_ (by first | omega | (simp; done) | (simp; omega)) _ | refine below_drawn ?_ | refine below_drawnN ?_ _ | refine below_new ?_ _))))
      have a1_x1 : x1.cell? ⟨w.heap.size, 1, none⟩ = some (.int .i64 ad) := below_cell_of hb_x1 (by first | (go_simp; done) | (refine below_cell_of (w := wr) ?_ (by first | assumption | (go_simp; done)); (repeat (first | assumption | exact Below.refl _ _ | refine below_set ?_ (by first | omega | (simp; done) | (simp; omega)) _ | refine below_drawn ?_ | refine below_drawnN ?_ _ | refine below_new ?_ _))))
      have b0_x1 : x1.cell? ⟨w.heap.size + 1, 0, none⟩ = some (.int .i64 bn) := below_cell_of hb_x1 (by first | (go_simp; done) | (refine below_cell_of (w := wr) ?_ (by first | assumption | (go_simp; done)); (repeat (first | assumption | exact Below.refl _ _ | refine below_set ?_ (by first | omega | (simp; done) | (simp; omega)) _ | refine below_drawn ?_ | refine below_drawnN ?_ _ | refine below_new ?_ _))))
      have b1_x1 : x1.cell? ⟨w.heap.size + 1, 1, none⟩ = some (.int .i64 bd) := below_cell_of hb_x1 (by first | (go_simp; done) | (refine below_cell_of (w := wr) ?_ (by first | assumption | (go_simp; done)); (repeat (first | assumption | exact Below.refl _ _ | refine below_set ?_ (by first | omega | (simp; done) | (simp; omega)) _ | refine below_drawn ?_ | refine below_drawnN ?_ _ | refine below_new ?_ _))))
      have c0_x1 : x1.cell? ⟨w.heap.size + 2, 0, none⟩ = some (.int .i64 cn) := below_cell_of hb_x1 (by first | (go_simp; done) | (refine below_cell_of (w := wr) ?_ (by first | assumption | (go_simp; done)); (repeat (first | assumption | exact Below.refl _ _ | refine below_set ?_ (by first | omega | (simp; done) | (simp; omega)) _ | refine below_drawn ?_ | refine below_drawnN ?_ _ | refine below_new ?_ _))))
      have c1_x1 : x1.cell? ⟨w.heap.size + 2, 1, none⟩ = some (.int .i64 cd) := below_cell_of hb_x1 (by first | (go_simp; done) | (refine below_cell_of (w := wr) ?_ (by first | assumption | (go_simp; done)); (repeat (first | assumption | exact Below.refl _ _ | refine below_set ?_ (by first | omega | (simp; done) | (simp; omega)) _ | refine below_drawn ?_ | refine below_drawnN ?_ _ | refine below_new ?_ _))))
      have s0_x1 : x1.cell? ⟨w2.heap.size, 0, none⟩ = some (.int .i64 sn) := below_cell_of hb_x1 (by first | (go_simp; done) | (refine below_cell_of (w := wr) ?_ (by first | assumption | (go_simp; done)); (repeat (first | assumption | exact Below.refl _ _ | refine below_set ?_ (by first | omega | (simp; done) | (simp; omega)) _ | refine below_drawn ?_ | refine below_drawnN ?_ _ | refine below_new ?_ _))))
      have s1_x1 : x1.cell? ⟨w2.heap.size, 1, none⟩ = some (.int .i64 sd) := below_cell_of hb_x1 (by first | (go_simp; done) | (refine below_cell_of (w := wr) ?_ (by first | assumption | (go_simp; done)); (repeat (first | assumption | exact Below.refl _ _ | refine below_set ?_ (by first | omega | (simp; done) | (simp; omega)) _ | refine below_drawn ?_ | refine below_drawnN ?_ _ | refine below_new ?_ _))))
      have u0_x1 : x1.cell? ⟨w4.heap.size, 0, none⟩ = some (.int .i64 un) := below_cell_of hb_x1 (by first | (go_simp; done) | (refine below_cell_of (w := wr) ?_ (by first | assumption | (go_simp; done)); (repeat (first | assumption | exact Below.refl _ _ | refine below_set ?_ (by first | omega | (simp; done) | (simp; omega)) _ | refine below_drawn ?_ | refine below_drawnN ?_ _ | refine below_new ?_ _))))
      have u1_x1 : x1.cell? ⟨w4.heap.size, 1, none⟩ = some (.int .i64 ud) := below_cell_of hb_x1 (by first | (go_simp; done) | (refine below_cell_of (w := wr) ?_ (by first | assumption | (go_simp; done)); (repeat (first | assumption | exact Below.refl _ _ | refine below_set ?_ (by first | omega | (simp; done) | (simp; omega)) _ | refine below_drawn ?_ | refine below_drawnN ?_ _ | refine below_new ?_ _))))
      go_wp2_with fail
      refine (add_any bn bd cn cd _ (by omega) (by omega)).mono ?_
      rw [E2.out]
      rintro e x2 ⟨rfl, hb_x2⟩
      have hB_x2 : Below wr.heap.size wr x2 := below_on (by first | ((repeat (first | assumption | exact Below.refl _ _ | refine below_set ?_ (by first | omega | (simp; done) | (simp; omega)) _ | refine below_drawn ?_ | refine below_drawnN ?_ _ | refine below_new ?_ _)); done) | (refine below_on hB_x1 ?_; (repeat (first | assumption | exact Below.refl _ _ | refine below_set ?_ (by first | omega | (simp; done) | (simp; omega)) _ | refine below_drawn ?_ | refine below_drawnN ?_ _ | refine below_new ?_ _)))) hb_x2
      have hz_x2 := hb_x2.size
      try simp only [World.size_setCell] at hz_x2
      try simp only [World.size_drew] at hz_x2
      try simp only [World.size_drewN] at hz_x2
      try simp only [World.size_alloc] at hz_x2
      try simp only [World.size_setCell] at hz_x2
      try simp only [World.size_drew] at hz_x2
      try simp only [World.size_drewN] at hz_x2
      try simp only [World.size_alloc] at hz_x2
      have hl0_x2 : w.heap.size < x2.heap.size := by omega
      have hl1_x2 : w.heap.size + 1 < x2.heap.size := by omega
      have hl2_x2 : w.heap.size + 2 < x2.heap.size := by omega
      have hl3_x2 : w2.heap.size < x2.heap.size := by omega
      have hl4_x2 : w4.heap.size < x2.heap.size := by omega
      have hl5_x2 : x1.heap.size < x2.heap.size := by omega
      have a0_x2 : x2.cell? ⟨w.heap.size, 0, none⟩ = some (.int .i64 an) := below_cell_of hb_x2 (by first | (go_simp; done) | (refine below_cell_of (w := x1) ?_ (by first | assumption | (go_simp; done)); (repeat (first | assumption | exact Below.refl _ _ | refine below_set ?_ (by first | omega | (simp; done) | (simp; omega)) _ | refine below_drawn ?_ | refine below_drawnN ?_ _ | refine below_new ?_ _))))
      have a1_x2 : x2.cell? ⟨w.heap.size, 1, none⟩ = some (.int .i64 ad) := below_cell_of hb_x2 (by first | (go_simp; done) | (refine below_cell_of (w := x1) ?_ (by first | assumption | (go_simp; done)); (repeat (first | assumption | exact Below.refl _ _ | refine below_set ?_ (by first | omega | (simp; done) | (simp; omega)) _ | refine below_drawn ?_ | refine below_drawnN ?_ _ | refine below_new ?_ _))))
      have b0_x2 : x2.cell? ⟨w.heap.size + 1, 0, none⟩ = some (.int .i64 bn) := below_cell_of hb_x2 (by first | (go_simp; done) | (refine below_cell_of (w := x1) ?_ (by first | assumption | (go_simp; done)); (repeat (first | assumption | exact Below.refl _ _ | refine below_set ?_ (by first | omega | (simp; done) | (simp; omega)) _ | refine below_drawn ?_ | refine below_drawnN ?_ _ | refine below_new ?_ _))))
      have b1_x2 : x2.cell? ⟨w.heap.size + 1, 1, none⟩ = some (.int .i64 bd) := below_cell_of hb_x2 (by first | (go_simp; done) | (refine below_cell_of (w := x1) ?_ (by first | assumption | (go_simp; done)); (repeat (first | assumption | exact Below.refl _ _ | refine below_set ?_ (by first | omega | (simp; done) | (simp; omega)) _ | refine below_drawn ?_ | refine below_drawnN ?_ _ | refine below_new ?_ _))))
      have c0_x2 : x2.cell? ⟨w.heap.size + 2, 0, none⟩ = some (.int .i64 cn) := below_cell_of hb_x2 (by first | (go_simp; done) | (refine below_cell_of (w := x1) ?_ (by first | assumption | (go_simp; done)); (repeat (first | assumption | exact Below.refl _ _ | refine below_set ?_ (by first | omega | (simp; done) | (simp; omega)) _ | refine below_drawn ?_ | refine below_drawnN ?_ _ | refine below_new ?_ _))))
      have c1_x2 : x2.cell? ⟨w.heap.size + 2, 1, none⟩ = some (.int .i64 cd) := below_cell_of hb_x2 (by first | (go_simp; done) | (refine below_cell_of (w := x1) ?_ (by first | assumption | (go_simp; done)); (repeat (first | assumption | exact Below.refl _ _ | refine below_set ?_ (by first | omega | (simp; done) | (simp; omega)) _ | refine below_drawn ?_ | refine below_drawnN ?_ _ | refine below_new ?_ _))))
      have s0_x2 : x2.cell? ⟨w2.heap.size, 0, none⟩ = some (.int .i64 sn) := below_cell_of hb_x2 (by first | (go_simp; done) | (refine below_cell_of (w := x1) ?_ (by first | assumption | (go_simp; done)); (repeat (first | assumption | exact Below.refl _ _ | refine below_set ?_ (by first | omega | (simp; done) | (simp; omega)) _ | refine below_drawn ?_ | refine below_drawnN ?_ _ | refine below_new ?_ _))))
      have s1_x2 : x2.cell? ⟨w2.heap.size, 1, none⟩ = some (.int .i64 sd) := below_cell_of hb_x2 (by first | (go_simp; done) | (refine below_cell_of (w := x1) ?_ (by first | assumption | (go_simp; done)); (repeat (first | assumption | exact Below.refl _ _ | refine below_set ?_ (by first | omega | (simp; done) | (simp; omega)) _ | refine below_drawn ?_ | refine below_drawnN ?_ _ | refine below_new ?_ _))))
      have u0_x2 : x2.cell? ⟨w4.heap.size, 0, none⟩ = some (.int .i64 un) := below_cell_of hb_x2 (by first | (go_simp; done) | (refine below_cell_of (w := x1) ?_ (by first | assumption | (go_simp; done)); (repeat (first | assumption | exact Below.refl _ _ | refine below_set ?_ (by first | omega | (simp; done) | (simp; omega)) _ | refine below_drawn ?_ | refine below_drawnN ?_ _ | refine below_new ?_ _))))
      have u1_x2 : x2.cell? ⟨w4.heap.size, 1, none⟩ = some (.int .i64 ud) := below_cell_of hb_x2 (by first | (go_simp; done) | (refine below_cell_of (w := x1) ?_ (by first | assumption | (go_simp; done)); (repeat (first | assumption | exact Below.refl _ _ | refine below_set ?_ (by first | omega | (simp; done) | (simp; omega)) _ | refine below_drawn ?_ | refine below_drawnN ?_ _ | refine below_new ?_ _))))
      have x0_x2 : x2.cell? ⟨x1.heap.size, 0, none⟩ = some (.int .i64 xn) := below_cell_of hb_x2 (by first | (go_simp; done) | (refine below_cell_of (w := x1) ?_ (by first | assumption | (go_simp; done)); (repeat (first | assumption | exact Below.refl _ _ | refine below_set ?_ (by first | omega | (simp; done) | (simp; omega)) _ | refine below_drawn ?_ | refine below_drawnN ?_ _ | refine below_new ?_ _))))
      have x1_x2 : x2.cell? ⟨x1.heap.size, 1, none⟩ = some (.int .i64 xd) := below_cell_of hb_x2 (by first | (go_simp; done) | (refine below_cell_of (w := x1) ?_ (by first | assumption | (go_simp; done)); (repeat (first | assumption | exact Below.refl _ _ | refine below_set ?_ (by first | omega | (simp; done) | (simp; omega)) _ | refine below_drawn ?_ | refine below_drawnN ?_ _ | refine below_new ?_ _))))
      go_wp2_with fail
      refine (add_any an ad yn yd _ (by omega) (by omega)).mono ?_
      rw [E3.out]
      rintro e x3 ⟨rfl, hb_x3⟩
      have hB_x3 : Below wr.heap.size wr x3 := below_on (by first | ((repeat (first | assumption | exact Below.refl _ _ | refine below_set ?_ (by first | omega | (simp; done) | (simp; omega)) _ | refine below_drawn ?_ | refine below_drawnN ?_ _ | refine below_new ?_ _)); done) | (refine below_on hB_x2 ?_; (repeat (first | assumption | exact Below.refl _ _ | refine below_set ?_ (by first | omega | (simp; done) | (simp; omega)) _ | refine below_drawn ?_ | refine below_drawnN ?_ _ | refine below_new ?_ _)))) hb_x3
      have hz_x3 := hb_x3.size
      try simp only [World.size_setCell] at hz_x3
      try simp only [World.size_drew] at hz_x3
      try simp only [World.size_drewN] at hz_x3
      try simp only [World.size_alloc] at hz_x3
      try simp only [World.size_setCell] at hz_x3
      try simp only [World.size_drew] at hz_x3
      try simp only [World.size_drewN] at hz_x3
      try simp only [World.size_alloc] at hz_x3
      have hl0_x3 : w.heap.size < x3.heap.size := by omega
      have hl1_x3 : w.heap.size + 1 < x3.heap.size := by omega
      have hl2_x3 : w.heap.size + 2 < x3.heap.size := by omega
      have hl3_x3 : w2.heap.size < x3.heap.size := by omega
      have hl4_x3 : w4.heap.size < x3.heap.size := by omega
      have hl5_x3 : x1.heap.size < x3.heap.size := by omega
      have hl6_x3 : x2.heap.size < x3.heap.size := by omega
      have a0_x3 : x3.cell? ⟨w.heap.size, 0, none⟩ = some (.int .i64 an) := below_cell_of hb_x3 (by first | (go_simp; done) | (refine below_cell_of (w := x2) ?_ (by first | assumption | (go_simp; done)); (repeat (first | assumption | exact Below.refl _ _ | refine below_set ?_ (by first | omega | (simp; done) | (simp; omega)) _ | refine below_drawn ?_ | refine below_drawnN ?_ _ | refine below_new ?_ _))))
      have a1_x3 : x3.cell? ⟨w.heap.size, 1, none⟩ = some (.int .i64 ad) := below_cell_of hb_x3 (by first | (go_simp; done) | (refine below_cell_of (w := x2) ?_ (by first | assumption | (go_simp; done)); (repeat (first | assumption | exact Below.refl _ _ | refine below_set ?_ (by first | omega | (simp; done) | (simp; omega)) _ | refine below_drawn ?_ | refine below_drawnN ?_ _ | refine below_new ?_ _))))
      have b0_x3 : x3.cell? ⟨w.heap.size + 1, 0, none⟩ = some (.int .i64 bn) := below_cell_of hb_x3 (by first | (go_simp; done) | (refine below_cell_of (w := x2) ?_ (by first | assumption | (go_simp; done)); (repeat (first | assumption | exact Below.refl _ _ | refine below_set ?_ (by first | omega | (simp; done) | (simp; omega)) _ | refine below_drawn ?_ | refine below_drawnN ?_ _ | refine below_new ?_ _))))
      have b1_x3 : x3.cell? ⟨w.heap.size + 1, 1, none⟩ = some (.int .i64 bd) := below_cell_of hb_x3 (by first | (go_simp; done) | (refine below_cell_of (w := x2) ?_ (by first | assumption | (go_simp; done)); (repeat (first | assumption | exact Below.refl _ _ | refine below_set ?_ (by first | omega | (simp; done) | (simp; omega)) _ | refine below_drawn ?_ | refine below_drawnN ?_ _ | refine below_new ?_ _))))
      have c0_x3 : x3.cell? ⟨w.heap.size + 2, 0, none⟩ = some (.int .i64 cn) := below_cell_of hb_x3 (by first | (go_simp; done) | (refine below_cell_of (w := x2) ?_ (by first | assumption | (go_simp; done)); (repeat (first | assumption | exact Below.refl _ _ | refine below_set ?_ (by first | omega | (simp; done) | (simp; omega)) _ | refine below_drawn ?_ | refine below_drawnN ?_ _ | refine below_new ?_ _))))
      have c1_x3 : x3.cell? ⟨w.heap.size + 2, 1, none⟩ = some (.int .i64 cd) := below_cell_of hb_x3 (by first | (go_simp; done) | (refine below_cell_of (w := x2) ?_ (by first | assumption | (go_simp; done)); (repeat (first | assumption | exact Below.refl _ _ | refine below_set ?_ (by first | omega | (simp; done) | (simp; omega)) _ | refine below_drawn ?_ | refine below_drawnN ?_ _ | refine below_new ?_ _))))
      have s0_x3 : x3.cell? ⟨w2.heap.size, 0, none⟩ = some (.int .i64 sn) := below_cell_of hb_x3 (by first | (go_simp; done) | (refine below_cell_of (w := x2) ?_ (by first | assumption | (go_simp; done)); (repeat (first | assumption | exact Below.refl _ _ | refine below_set ?_ (by first | omega | (simp; done) | (simp; omega)) _ | refine below_drawn ?_ | refine below_drawnN ?_ _ | refine below_new ?_ _))))
      have s1_x3 : x3.cell? ⟨w2.heap.size, 1, none⟩ = some (.int .i64 sd) := below_cell_of hb_x3 (by first | (go_simp; done) | (refine below_cell_of (w := x2) ?_ (by first | assumption | (go_simp; done)); (repeat (first | assumption | exact Below.refl _ _ | refine below_set ?_ (by first | omega | (simp; done) | (simp; omega)) _ | refine below_drawn ?_ | refine below_drawnN ?_ _ | refine below_new ?_ _))))
      have u0_x3 : x3.cell? ⟨w4.heap.size, 0, none⟩ = some (.int .i64 un) := below_cell_of hb_x3 (by first | (go_simp; done) | (refine below_cell_of (w := x2) ?_ (by first | assumption | (go_simp; done)); (repeat (first | assumption | exact Below.refl _ _ | refine below_set ?_ (by first | omega | (simp; done) | (simp; omega)) _ | refine below_drawn ?_ | refine below_drawnN ?_ _ | refine below_new ?_ _))))
      have u1_x3 : x3.cell? ⟨w4.heap.size, 1, none⟩ = some (.int .i64 ud) := below_cell_of hb_x3 (by first | (go_simp; done) | (refine below_cell_of (w := x2) ?_ (by first | assumption | (go_simp; done)); (repeat (first | assumption | exact Below.refl _ _ | refine below_set ?_ (by first | omega | (simp; done) | (simp; omega)) _ | refine below_drawn ?_ | refine below_drawnN ?_ _ | refine below_new ?_ _))))
      have x0_x3 : x3.cell? ⟨x1.heap.size, 0, none⟩ = some (.int .i64 xn) := below_cell_of hb_x3 (by first | (go_simp; done) | (refine below_cell_of (w := x2) ?_ (by first | assumption | (go_simp; done)); (repeat (first | assumption | exact Below.refl _ _ | refine below_set ?_ (by first | omega | (simp; done) | (simp; omega)) _ | refine below_drawn ?_ | refine below_drawnN ?_ _ | refine below_new ?_ _))))
      have x1_x3 : x3.cell? ⟨x1.heap.size, 1, none⟩ = some (.int .i64 xd) := below_cell_of hb_x3 (by first | (go_simp; done) | (refine below_cell_of (w := x2) ?_ (by first | assumption | (go_simp; done)); (repeat (first | assumption | exact Below.refl _ _ | refine below_set ?_ (by first | omega | (simp; done) | (simp; omega)) _ | refine below_drawn ?_ | refine below_drawnN ?_ _ | refine below_new ?_ _))))
      have y0_x3 : x3.cell? ⟨x2.heap.size, 0, none⟩ = some (.int .i64 yn) := below_cell_of hb_x3 (by first | (go_simp; done) | (refine below_cell_of (w := x2) ?_ (by first | assumption | (go_simp; done)); (repeat (first | assumption | exact Below.refl _ _ | refine below_set ?_ (by first | omega | (simp; done) | (simp; omega)) _ | refine below_drawn ?_ | refine below_drawnN ?_ _ | refine below_new ?_ _))))
      have y1_x3 : x3.cell? ⟨x2.heap.size, 1, none⟩ = some (.int .i64 yd) := below_cell_of hb_x3 (by first | (go_simp; done) | (refine below_cell_of (w := x2) ?_ (by first | assumption | (go_simp; done)); (repeat (first | assumption | exact Below.refl _ _ | refine below_set ?_ (by first | omega | (simp; done) | (simp; omega)) _ | refine below_drawn ?_ | refine below_drawnN ?_ _ | refine below_new ?_ _))))
      go_wp2_with fail
      refine (mul_any un ud cn cd _ (by omega) (by omega)).mono ?_
      rw [E4.out]
      rintro e x4 ⟨rfl, hb_x4⟩
      have hB_x4 : Below wr.heap.size wr x4 := below_on (by first | ((repeat (first | assumption | exact Below.refl _ _ | refine below_set ?_ (by first | omega | (simp; done) | (simp; omega)) _ | refine below_drawn ?_ | refine below_drawnN ?_ _ | refine below_new ?_ _)); done) | (refine below_on hB_x3 ?_; (repeat (first | assumption | exact Below.refl _ _ | refine below_set ?_ (by first | omega | (simp; done) | (simp; omega)) _ | refine below_drawn ?_ | refine below_drawnN ?_ _ | refine below_new ?_ _)))) hb_x4
      have hz_x4 := hb_x4.size
      try simp only [World.size_setCell] at hz_x4
      try simp only [World.size_drew] at hz_x4
      try simp only [World.size_drewN] at hz_x4
      try simp only [World.size_alloc] at hz_x4
      try simp only [World.size_setCell] at hz_x4
      try simp only [World.size_drew] at hz_x4
      try simp only [World.size_drewN] at hz_x4
      try simp only [World.size_alloc] at hz_x4
      have hl0_x4 : w.heap.size < x4.heap.size := by omega
      have hl1_x4 : w.heap.size + 1 < x4.heap.size := by omega
      have hl2_x4 : w.heap.size + 2 < x4.heap.size := by omega
      have hl3_x4 : w2.heap.size < x4.heap.size := by omega
      have hl4_x4 : w4.heap.size < x4.heap.size := by omega
      have hl5_x4 : x1.heap.size < x4.heap.size := by omega
      have hl6_x4 : x2.heap.size < x4.heap.size := by omega
      have hl7_x4 : x3.heap.size < x4.heap.size := by omega
      have a0_x4 : x4.cell? ⟨w.heap.size, 0, none⟩ = some (.int .i64 an) := below_cell_of hb_x4 (by first | (go_simp; done) | (refine below_cell_of (w := x3) ?_ (by first | assumption | (go_simp; done)); (repeat (first | assumption | exact Below.refl _ _ | refine below_set ?_ (by first | omega | (simp; done) | (simp; omega)) _ | refine below_drawn ?_ | refine below_drawnN ?_ _ | refine below_new ?_ _))))
      have a1_x4 : x4.cell? ⟨w.heap.size, 1, none⟩ = some (.int .i64 ad) := below_cell_of hb_x4 (by first | (go_simp; done) | (refine below_cell_of (w := x3) ?_ (by first | assumption | (go_simp; done)); (repeat (first | assumption | exact Below.refl _ _ | refine below_set ?_ (by first | omega | (simp; done) | (simp; omega)) _ | refine below_drawn ?_ | refine below_drawnN ?_ _ | refine below_new ?_ _))))
      have b0_x4 : x4.cell? ⟨w.heap.size + 1, 0, none⟩ = some (.int .i64 bn) := below_cell_of hb_x4 (by first | (go_simp; done) | (refine below_cell_of (w := x3) ?_ (by first | assumption | (go_simp; done)); (repeat (first | assumption | exact Below.refl _ _ | refine below_set ?_ (by first | omega | (simp; done) | (simp; omega)) _ | refine below_drawn ?_ | refine below_drawnN ?_ _ | refine below_new ?_ _))))
      have b1_x4 : x4.cell? ⟨w.heap.size + 1, 1, none⟩ = some (.int .i64 bd) := below_cell_of hb_x4 (by first | (go_simp; done) | (refine below_cell_of (w := x3) ?_ (by first | assumption | (go_simp; done)); (repeat (first | assumption | exact Below.refl _ _ | refine below_set ?_ (by first | omega | (simp; done) | (simp; omega)) _ | refine below_drawn ?_ | refine below_drawnN ?_ _ | refine below_new ?_ _))))
      have c0_x4 : x4.cell? ⟨w.heap.size + 2, 0, none⟩ = some (.int .i64 cn) := below_cell_of hb_x4 (by first | (go_simp; done) | (refine below_cell_of (w := x3) ?_ (by first | assumption | (go_simp; done)); (repeat (first | assumption | exact Below.refl _ _ | refine below_set ?_ (by first | omega | (simp; done) | (simp; omega)) _ | refine below_drawn ?_ | refine below_drawnN ?_ _ | refine below_new ?_ _))))
      have c1_x4 : x4.cell? ⟨w.heap.size + 2, 1, none⟩ = some (.int .i64 cd) := below_cell_of hb_x4 (by first | (go_simp; done) | (refine below_cell_of (w := x3) ?_ (by first | assumption | (go_simp; done)); (repeat (first | assumption | exact Below.refl _ _ | refine below_set ?_ (by first | omega | (simp; done) | (simp; omega)) _ | refine below_drawn ?_ | refine below_drawnN ?_ _ | refine below_new ?_ _))))
      have s0_x4 : x4.cell? ⟨w2.heap.size, 0, none⟩ = some (.int .i64 sn) := below_cell_of hb_x4 (by first | (go_simp; done) | (refine below_cell_of (w := x3) ?_ (by first | assumption | (go_simp; done)); (repeat (first | assumption | exact Below.refl _ _ | refine below_set ?_ (by first | omega | (simp; done) | (simp; omega)) _ | refine below_drawn ?_ | refine below_drawnN ?_ _ | refine below_new ?_ _))))
      have s1_x4 : x4.cell? ⟨w2.heap.size, 1, none⟩ = some (.int .i64 sd) := below_cell_of hb_x4 (by first | (go_simp; done) | (refine below_cell_of (w := x3) ?_ (by first | assumption | (go_simp; done)); (repeat (first | assumption | exact Below.refl _ _ | refine below_set ?_ (by first | omega | (simp; done) | (simp; omega)) _ | refine below_drawn ?_ | refine below_drawnN ?_ _ | refine below_new ?_ _))))
      have u0_x4 : x4.cell? ⟨w4.heap.size, 0, none⟩ = some (.int .i64 un) := below_cell_of hb_x4 (by first | (go_simp; done) | (refine below_cell_of (w := x3) ?_ (by first | assumption | (go_simp; done)); (repeat (first | assumption | exact Below.refl _ _ | refine below_set ?_ (by first | omega | (simp; done) | (simp; omega)) _ | refine below_drawn ?_ | refine below_drawnN ?_ _ | refine below_new ?_ _))))
      have u1_x4 : x4.cell? ⟨w4.heap.size, 1, none⟩ = some (.int .i64 ud) := below_cell_of hb_x4 (by first | (go_simp; done) | (refine below_cell_of (w := x3) ?_ (by first | assumption | (go_simp; done)); (repeat (first | assumption | exact Below.refl _ _ | refine below_set ?_ (by first | omega | (simp; done) | (simp; omega)) _ | refine below_drawn ?_ | refine below_drawnN ?_ _ | refine below_new ?_ _))))
      have x0_x4 : x4.cell? ⟨x1.heap.size, 0, none⟩ = some (.int .i64 xn) := below_cell_of hb_x4 (by first | (go_simp; done) | (refine below_cell_of (w := x3) ?_ (by first | assumption | (go_simp; done)); (repeat (first | assumption | exact Below.refl _ _ | refine below_set ?_ (by first | omega | (simp; done) | (simp; omega)) _ | refine below_drawn ?_ | refine below_drawnN ?_ _ | refine below_new ?_ _))))
      have x1_x4 : x4.cell? ⟨x1.heap.size, 1, none⟩ = some (.int .i64 xd) := below_cell_of hb_x4 (by first | (go_simp; done) | (refine below_cell_of (w := x3) ?_ (by first | assumption | (go_simp; done)); (repeat (first | assumption | exact Below.refl _ _ | refine below_set ?_ (by first | omega | (simp; done) | (simp; omega)) _ | refine below_drawn ?_ | refine below_drawnN ?_ _ | refine below_new ?_ _))))
      have y0_x4 : x4.cell? ⟨x2.heap.size, 0, none⟩ = some (.int .i64 yn) := below_cell_of hb_x4 (by first | (go_simp; done) | (refine below_cell_of (w := x3) ?_ (by first | assumption | (go_simp; done)); (repeat (first | assumption | exact Below.refl _ _ | refine below_set ?_ (by first | omega | (simp; done) | (simp; omega)) _ | refine below_drawn ?_ | refine below_drawnN ?_ _ | refine below_new ?_ _))))
      have y1_x4 : x4.cell? ⟨x2.heap.size, 1, none⟩ = some (.int .i64 yd) := below_cell_of hb_x4 (by first | (go_simp; done) | (refine below_cell_of (w := x3) ?_ (by first | assumption | (go_simp; done)); (repeat (first | assumption | exact Below.refl _ _ | refine below_set ?_ (by first | omega | (simp; done) | (simp; omega)) _ | refine below_drawn ?_ | refine below_drawnN ?_ _ | refine below_new ?_ _))))
      have z0_x4 : x4.cell? ⟨x3.heap.size, 0, none⟩ = some (.int .i64 xn) := below_cell_of hb_x4 (by first | (go_simp; done) | (refine below_cell_of (w := x3) ?_ (by first | assumption | (go_simp; done)); (repeat (first | assumption | exact Below.refl _ _ | refine below_set ?_ (by first | omega | (simp; done) | (simp; omega)) _ | refine below_drawn ?_ | refine below_drawnN ?_ _ | refine below_new ?_ _))))
      have z1_x4 : x4.cell? ⟨x3.heap.size, 1, none⟩ = some (.int .i64 xd) := below_cell_of hb_x4 (by first | (go_simp; done) | (refine below_cell_of (w := x3) ?_ (by first | assumption | (go_simp; done)); (repeat (first | assumption | exact Below.refl _ _ | refine below_set ?_ (by first | omega | (simp; done) | (simp; omega)) _ | refine below_drawn ?_ | refine below_drawnN ?_ _ | refine below_new ?_ _))))
      go_wp2_with fail
      refine (mul_any bn bd cn cd _ (by omega) (by omega)).mono ?_
      rw [E5.out]
      rintro e x5 ⟨rfl, hb_x5⟩
      have hB_x5 : Below wr.heap.size wr x5 := below_on (by first | ((repeat (first | assumption | exact Below.refl _ _ | refine below_set ?_ (by first | omega | (simp; done) | (simp; omega)) _ | refine below_drawn ?_ | refine below_drawnN ?_ _ | refine below_new ?_ _)); done) | (refine below_on hB_x4 ?_; (repeat (first | assumption | exact Below.refl _ _ | refine below_set ?_ (by first | omega | (simp; done) | (simp; omega)) _ | refine below_drawn ?_ | refine below_drawnN ?_ _ | refine below_new ?_ _)))) hb_x5
      have hz_x5 := hb_x5.size
      try simp only [World.size_setCell] at hz_x5
      try simp only [World.size_drew] at hz_x5
      try simp only [World.size_drewN] at hz_x5
      try simp only [World.size_alloc] at hz_x5
      try simp only [World.size_setCell] at hz_x5
      try simp only [World.size_drew] at hz_x5
      try simp only [World.size_drewN] at hz_x5
      try simp only [World.size_alloc] at hz_x5
      have hl0_x5 : w.heap.size < x5.heap.size := by omega
      have hl1_x5 : w.heap.size + 1 < x5.heap.size := by omega
      have hl2_x5 : w.heap.size + 2 < x5.heap.size := by omega
      have hl3_x5 : w2.heap.size < x5.heap.size := by omega
      have hl4_x5 : x4.heap.size < x5.heap.size := by omega
      have a0_x5 : x5.cell? ⟨w.heap.size, 0, none⟩ = some (.int .i64 an) := below_cell_of hb_x5 (by first | (go_simp; done) | (refine below_cell_of (w := x4) ?_ (by first | assumption | (go_simp; done)); (repeat (first | assumption | exact Below.refl _ _ | refine below_set ?_ (by first | omega | (simp; done) | (simp; omega)) _ | refine below_drawn ?_ | refine below_drawnN ?_ _ | refine below_new ?_ _))))
      have a1_x5 : x5.cell? ⟨w.heap.size, 1, none⟩ = some (.int .i64 ad) := below_cell_of hb_x5 (by first | (go_simp; done) | (refine below_cell_of (w := x4) ?_ (by first | assumption | (go_simp; done)); (repeat (first | assumption | exact Below.refl _ _ | refine below_set ?_ (by first | omega | (simp; done) | (simp; omega)) _ | refine below_drawn ?_ | refine below_drawnN ?_ _ | refine below_new ?_ _))))
      have b0_x5 : x5.cell? ⟨w.heap.size + 1, 0, none⟩ = some (.int .i64 bn) := below_cell_of hb_x5 (by first | (go_simp; done) | (refine below_cell_of (w := x4) ?_ (by first | assumption | (go_simp; done)); (repeat (first | assumption | exact Below.refl _ _ | refine below_set ?_ (by first | omega | (simp; done) | (simp; omega)) _ | refine below_drawn ?_ | refine below_drawnN ?_ _ | refine below_new ?_ _))))
      have b1_x5 : x5.cell? ⟨w.heap.size + 1, 1, none⟩ = some (.int .i64 bd) := below_cell_of hb_x5 (by first | (go_simp; done) | (refine below_cell_of (w := x4) ?_ (by first | assumption | (go_simp; done)); (repeat (first | assumption | exact Below.refl _ _ | refine below_set ?_ (by first | omega | (simp; done) | (simp; omega)) _ | refine below_drawn ?_ | refine below_drawnN ?_ _ | refine below_new ?_ _))))
      have c0_x5 : x5.cell? ⟨w.heap.size + 2, 0, none⟩ = some (.int .i64 cn) := below_cell_of hb_x5 (by first | (go_simp; done) | (refine below_cell_of (w := x4) ?_ (by first | assumption | (go_simp; done)); (repeat (first | assumption | exact Below.refl _ _ | refine below_set ?_ (by first | omega | (simp; done) | (simp; omega)) _ | refine below_drawn ?_ | refine below_drawnN ?_ _ | refine below_new ?_ _))))
      have c1_x5 : x5.cell? ⟨w.heap.size + 2, 1, none⟩ = some (.int .i64 cd) := below_cell_of hb_x5 (by first | (go_simp; done) | (refine below_cell_of (w := x4) ?_ (by first | assumption | (go_simp; done)); (repeat (first | assumption | exact Below.refl _ _ | refine below_set ?_ (by first | omega | (simp; done) | (simp; omega)) _ | refine below_drawn ?_ | refine below_drawnN ?_ _ | refine below_new ?_ _))))
      have s0_x5 : x5.cell? ⟨w2.heap.size, 0, none⟩ = some (.int .i64 sn) := below_cell_of hb_x5 (by first | (go_simp; done) | (refine below_cell_of (w := x4) ?_ (by first | assumption | (go_simp; done)); (repeat (first | assumption | exact Below.refl _ _ | refine below_set ?_ (by first | omega | (simp; done) | (simp; omega)) _ | refine below_drawn ?_ | refine below_drawnN ?_ _ | refine below_new ?_ _))))
      have s1_x5 : x5.cell? ⟨w2.heap.size, 1, none⟩ = some (.int .i64 sd) := below_cell_of hb_x5 (by first | (go_simp; done) | (refine below_cell_of (w := x4) ?_ (by first | assumption | (go_simp; done)); (repeat (first | assumption | exact Below.refl _ _ | refine below_set ?_ (by first | omega | (simp; done) | (simp; omega)) _ | refine below_drawn ?_ | refine below_drawnN ?_ _ | refine below_new ?_ _))))
      have m0_x5 : x5.cell? ⟨x4.heap.size, 0, none⟩ = some (.int .i64 mn) := below_cell_of hb_x5 (by first | (go_simp; done) | (refine below_cell_of (w := x4) ?_ (by first | assumption | (go_simp; done)); (repeat (first | assumption | exact Below.refl _ _ | refine below_set ?_ (by first | omega | (simp; done) | (simp; omega)) _ | refine below_drawn ?_ | refine below_drawnN ?_ _ | refine below_new ?_ _))))
      have m1_x5 : x5.cell? ⟨x4.heap.size, 1, none⟩ = some (.int .i64 md) := below_cell_of hb_x5 (by first | (go_simp; done) | (refine below_cell_of (w := x4) ?_ (by first | assumption | (go_simp; done)); (repeat (first | assumption | exact Below.refl _ _ | refine below_set ?_ (by first | omega | (simp; done) | (simp; omega)) _ | refine below_drawn ?_ | refine below_drawnN ?_ _ | refine below_new ?_ _))))
      go_wp2_with fail
      refine (mul_any an ad on od _ (by omega) (by omega)).mono ?_
      rw [E6.out]
      rintro e x6 ⟨rfl, hb_x6⟩
      have hB_x6 : Below wr.heap.size wr x6 := below_on (by first | ((repeat (first | assumption | exact Below.refl _ _ | refine below_set ?_ (by first | omega | (simp; done) | (simp; omega)) _ | refine below_drawn ?_ | refine below_drawnN ?_ _ | refine below_new ?_ _)); done) | (refine below_on hB_x5 ?_; (repeat (first | assumption | exact Below.refl _ _ | refine below_set ?_ (by first | omega | (simp; done) | (simp; omega)) _ | refine below_drawn ?_ | refine below_drawnN ?_ _ | refine below_new ?_ _)))) hb_x6
      have hz_x6 := hb_x6.size
      try simp only [World.size_setCell] at hz_x6
      try simp only [World.size_drew] at hz_x6
      try simp only [World.size_drewN] at hz_x6
      try simp only [World.size_alloc] at hz_x6
      try simp only [World.size_setCell] at hz_x6
      try simp only [World.size_drew] at hz_x6
      try simp only [World.size_drewN] at hz_x6
      try simp only [World.size_alloc] at hz_x6
      have hl0_x6 : w.heap.size < x6.heap.size := by omega
      have hl1_x6 : w.heap.size + 1 < x6.heap.size := by omega
      have hl2_x6 : w.heap.size + 2 < x6.heap.size := by omega
      have hl3_x6 : w2.heap.size < x6.heap.size := by omega
      have hl4_x6 : x4.heap.size < x6.heap.size := by omega
      have hl5_x6 : x5.heap.size < x6.heap.size := by omega
      have a0_x6 : x6.cell? ⟨w.heap.size, 0, none⟩ = some (.int .i64 an) := below_cell_of hb_x6 (by first | (go_simp; done) | (refine below_cell_of (w := x5) ?_ (by first | assumption | (go_simp; done)); (repeat (first | assumption | exact Below.refl _ _ | refine below_set ?_ (by first | omega | (simp; done) | (simp; omega)) _ | refine below_drawn ?_ | refine below_drawnN ?_ _ | refine below_new ?_ _))))
      have a1_x6 : x6.cell? ⟨w.heap.size, 1, none⟩ = some (.int .i64 ad) := below_cell_of hb_x6 (by first | (go_simp; done) | (refine below_cell_of (w := x5) ?_ (by first | assumption | (go_simp; done)); (repeat (first | assumption | exact Below.refl _ _ | refine below_set ?_ (by first | omega | (simp; done) | (simp; omega)) _ | refine below_drawn ?_ | refine below_drawnN ?_ _ | refine below_new ?_ _))))
      have b0_x6 : x6.cell? ⟨w.heap.size + 1, 0, none⟩ = some (.int .i64 bn) := below_cell_of hb_x6 (by first | (go_simp; done) | (refine below_cell_of (w := x5) ?_ (by first | assumption | (go_simp; done)); (repeat (first | assumption | exact Below.refl _ _ | refine below_set ?_ (by first | omega | (simp; done) | (simp; omega)) _ | refine below_drawn ?_ | refine below_drawnN ?_ _ | refine below_new ?_ _))))
      have b1_x6 : x6.cell? ⟨w.heap.size + 1, 1, none⟩ = some (.int .i64 bd) := below_cell_of hb_x6 (by first | (go_simp; done) | (refine below_cell_of (w := x5) ?_ (by first | assumption | (go_simp; done)); (repeat (first | assumption | exact Below.refl _ _ | refine below_set ?_ (by first | omega | (simp; done) | (simp; omega)) _ | refine below_drawn ?_ | refine below_drawnN ?_ _ | refine below_new ?_ _))))
      have c0_x6 : x6.cell? ⟨w.heap.size + 2, 0, none⟩ = some (.int .i64 cn) := below_cell_of hb_x6 (by first | (go_simp; done) | (refine below_cell_of (w := x5) ?_ (by first | assumption | (go_simp; done)); (repeat (first | assumption | exact Below.refl _ _ | refine below_set ?_ (by first | omega | (simp; done) | (simp; omega)) _ | refine below_drawn ?_ | refine below_drawnN ?_ _ | refine below_new ?_ _))))
      have c1_x6 : x6.cell? ⟨w.heap.size + 2, 1, none⟩ = some (.int .i64 cd) := below_cell_of hb_x6 (by first | (go_simp; done) | (refine below_cell_of (w := x5) ?_ (by first | assumption | (go_simp; done)); (repeat (first | assumption | exact Below.refl _ _ | refine below_set ?_ (by first | omega | (simp; done) | (simp; omega)) _ | refine below_drawn ?_ | refine below_drawnN ?_ _ | refine below_new ?_ _))))
      have s0_x6 : x6.cell? ⟨w2.heap.size, 0, none⟩ = some (.int .i64 sn) := below_cell_of hb_x6 (by first | (go_simp; done) | (refine below_cell_of (w := x5) ?_ (by first | assumption | (go_simp; done)); (repeat (first | assumption | exact Below.refl _ _ | refine below_set ?_ (by first | omega | (simp; done) | (simp; omega)) _ | refine below_drawn ?_ | refine below_drawnN ?_ _ | refine below_new ?_ _))))
      have s1_x6 : x6.cell? ⟨w2.heap.size, 1, none⟩ = some (.int .i64 sd) := below_cell_of hb_x6 (by first | (go_simp; done) | (refine below_cell_of (w := x5) ?_ (by first | assumption | (go_simp; done)); (repeat (first | assumption | exact Below.refl _ _ | refine below_set ?_ (by first | omega | (simp; done) | (simp; omega)) _ | refine below_drawn ?_ | refine below_drawnN ?_ _ | refine below_new ?_ _))))
      have m0_x6 : x6.cell? ⟨x4.heap.size, 0, none⟩ = some (.int .i64 mn) := below_cell_of hb_x6 (by first | (go_simp; done) | (refine below_cell_of (w := x5) ?_ (by first | assumption | (go_simp; done)); (repeat (first | assumption | exact Below.refl _ _ | refine below_set ?_ (by first | omega | (simp; done) | (simp; omega)) _ | refine below_drawn ?_ | refine below_drawnN ?_ _ | refine below_new ?_ _))))
      have m1_x6 : x6.cell? ⟨x4.heap.size, 1, none⟩ = some (.int .i64 md) := below_cell_of hb_x6 (by first | (go_simp; done) | (refine below_cell_of (w := x5) ?_ (by first | assumption | (go_simp; done)); (repeat (first | assumption | exact Below.refl _ _ | refine below_set ?_ (by first | omega | (simp; done) | (simp; omega)) _ | refine below_drawn ?_ | refine below_drawnN ?_ _ | refine below_new ?_ _))))
      have o0_x6 : x6.cell? ⟨x5.heap.size, 0, none⟩ = some (.int .i64 on) := below_cell_of hb_x6 (by first | (go_simp; done) | (refine below_cell_of (w := x5) ?_ (by first | assumption | (go_simp; done)); (repeat (first | assumption | exact Below.refl _ _ | refine below_set ?_ (by first | omega | (simp; done) | (simp; omega)) _ | refine below_drawn ?_ | refine below_drawnN ?_ _ | refine below_new ?_ _))))
      have o1_x6 : x6.cell? ⟨x5.heap.size, 1, none⟩ = some (.int .i64 od) := below_cell_of hb_x6 (by first | (go_simp; done) | (refine below_cell_of (w := x5) ?_ (by first | assumption | (go_simp; done)); (repeat (first | assumption | exact Below.refl _ _ | refine below_set ?_ (by first | omega | (simp; done) | (simp; omega)) _ | refine below_drawn ?_ | refine below_drawnN ?_ _ | refine below_new ?_ _))))
      go_wp2_with fail
      refine (mul_any sn sd cn cd _ (by omega) (by omega)).mono ?_
      rw [E7.out]
      rintro e x7 ⟨rfl, hb_x7⟩
      have hB_x7 : Below wr.heap.size wr x7 := below_on (by first | ((repeat (first | assumption | exact Below.refl _ _ | refine below_set ?_ (by first | omega | (simp; done) | (simp; omega)) _ | refine below_drawn ?_ | refine below_drawnN ?_ _ | refine below_new ?_ _)); done) | (refine below_on hB_x6 ?_; (repeat (first | assumption | exact Below.refl _ _ | refine below_set ?_ (by first | omega | (simp; done) | (simp; omega)) _ | refine below_drawn ?_ | refine below_drawnN ?_ _ | refine below_new ?_ _)))) hb_x7
      have hz_x7 := hb_x7.size
      try simp only [World.size_setCell] at hz_x7
      try simp only [World.size_drew] at hz_x7
      try simp only [World.size_drewN] at hz_x7
      try simp only [World.size_alloc] at hz_x7
      try simp only [World.size_setCell] at hz_x7
      try simp only [World.size_drew] at hz_x7
      try simp only [World.size_drewN] at hz_x7
      try simp only [World.size_alloc] at hz_x7
      have hl0_x7 : w.heap.size < x7.heap.size := by omega
      have hl1_x7 : w.heap.size + 1 < x7.heap.size := by omega
      have hl2_x7 : w.heap.size + 2 < x7.heap.size := by omega
      have hl3_x7 : w2.heap.size < x7.heap.size := by omega
      have hl4_x7 : x4.heap.size < x7.heap.size := by omega
      have hl5_x7 : x5.heap.size < x7.heap.size := by omega
      have hl6_x7 : x6.heap.size < x7.heap.size := by omega
      have a0_x7 : x7.cell? ⟨w.heap.size, 0, none⟩ = some (.int .i64 an) := below_cell_of hb_x7 (by first | (go_simp; done) | (refine below_cell_of (w := x6) ?_ (by first | assumption | (go_simp; done)); (repeat (first | assumption | exact Below.refl _ _ | refine below_set ?_ (by first | omega | (simp; done) | (simp; omega)) _ | refine below_drawn ?_ | refine below_drawnN ?_ _ | refine below_new ?_ _))))
      have a1_x7 : x7.cell? ⟨w.heap.size, 1, none⟩ = some (.int .i64 ad) := below_cell_of hb_x7 (by first | (go_simp; done) | (refine below_cell_of (w := x6) ?_ (by first | assumption | (go_simp; done)); (repeat (first | assumption | exact Below.refl _ _ | refine below_set ?_ (by first | omega | (simp; done) | (simp; omega)) _ | refine below_drawn ?_ | refine below_drawnN ?_ _ | refine below_new ?_ _))))
      have b0_x7 : x7.cell? ⟨w.heap.size + 1, 0, none⟩ = some (.int .i64 bn) := below_cell_of hb_x7 (by first | (go_simp; done) | (refine below_cell_of (w := x6) ?_ (by first | assumption | (go_simp; done)); (repeat (first | assumption | exact Below.refl _ _ | refine below_set ?_ (by first | omega | (simp; done) | (simp; omega)) _ | refine below_drawn ?_ | refine below_drawnN ?_ _ | refine below_new ?_ _))))
      have b1_x7 : x7.cell? ⟨w.heap.size + 1, 1, none⟩ = some (.int .i64 bd) := below_cell_of hb_x7 (by first | (go_simp; done) | (refine below_cell_of (w := x6) ?_ (by first | assumption | (go_simp; done)); (repeat (first | assumption | exact Below.refl _ _ | refine below_set ?_ (by first | omega | (simp; done) | (simp; omega)) _ | refine below_drawn ?_ | refine below_drawnN ?_ _ | refine below_new ?_ _))))
      have c0_x7 : x7.cell? ⟨w.heap.size + 2, 0, none⟩ = some (.int .i64 cn) := below_cell_of hb_x7 (by first | (go_simp; done) | (refine below_cell_of (w := x6) ?_ (by first | assumption | (go_simp; done)); (repeat (first | assumption | exact Below.refl _ _ | refine below_set ?_ (by first | omega | (simp; done) | (simp; omega)) _ | refine below_drawn ?_ | refine below_drawnN ?_ _ | refine below_new ?_ _))))
      have c1_x7 : x7.cell? ⟨w.heap.size + 2, 1, none⟩ = some (.int .i64 cd) := below_cell_of hb_x7 (by first | (go_simp; done) | (refine below_cell_of (w := x6) ?_ (by first | assumption | (go_simp; done)); (repeat (first | assumption | exact Below.refl _ _ | refine below_set ?_ (by first | omega | (simp; done) | (simp; omega)) _ | refine below_drawn ?_ | refine below_drawnN ?_ _ | refine below_new ?_ _))))
      have s0_x7 : x7.cell? ⟨w2.heap.size, 0, none⟩ = some (.int .i64 sn) := below_cell_of hb_x7 (by first | (go_simp; done) | (refine below_cell_of (w := x6) ?_ (by first | assumption | (go_simp; done)); (repeat (first | assumption | exact Below.refl _ _ | refine below_set ?_ (by first | omega | (simp; done) | (simp; omega)) _ | refine below_drawn ?_ | refine below_drawnN ?_ _ | refine below_new ?_ _))))
      have s1_x7 : x7.cell? ⟨w2.heap.size, 1, none⟩ = some (.int .i64 sd) := below_cell_of hb_x7 (by first | (go_simp; done) | (refine below_cell_of (w := x6) ?_ (by first | assumption | (go_simp; done)); (repeat (first | assumption | exact Below.refl _ _ | refine below_set ?_ (by first | omega | (simp; done) | (simp; omega)) _ | refine below_drawn ?_ | refine below_drawnN ?_ _ | refine below_new ?_ _))))
      have m0_x7 : x7.cell? ⟨x4.heap.size, 0, none⟩ = some (.int .i64 mn) := below_cell_of hb_x7 (by first | (go_simp; done) | (refine below_cell_of (w := x6) ?_ (by first | assumption | (go_simp; done)); (repeat (first | assumption | exact Below.refl _ _ | refine below_set ?_ (by first | omega | (simp; done) | (simp; omega)) _ | refine below_drawn ?_ | refine below_drawnN ?_ _ | refine below_new ?_ _))))
      have m1_x7 : x7.cell? ⟨x4.heap.size, 1, none⟩ = some (.int .i64 md) := below_cell_of hb_x7 (by first | (go_simp; done) | (refine below_cell_of (w := x6) ?_ (by first | assumption | (go_simp; done)); (repeat (first | assumption | exact Below.refl _ _ | refine below_set ?_ (by first | omega | (simp; done) | (simp; omega)) _ | refine below_drawn ?_ | refine below_drawnN ?_ _ | refine below_new ?_ _))))
      have o0_x7 : x7.cell? ⟨x5.heap.size, 0, none⟩ = some (.int .i64 on) := below_cell_of hb_x7 (by first | (go_simp; done) | (refine below_cell_of (w := x6) ?_ (by first | assumption | (go_simp; done)); (repeat (first | assumption | exact Below.refl _ _ | refine below_set ?_ (by first | omega | (simp; done) | (simp; omega)) _ | refine below_drawn ?_ | refine below_drawnN ?_ _ | refine below_new ?_ _))))
      have o1_x7 : x7.cell? ⟨x5.heap.size, 1, none⟩ = some (.int .i64 od) := below_cell_of hb_x7 (by first | (go_simp; done) | (refine below_cell_of (w := x6) ?_ (by first | assumption | (go_simp; done)); (repeat (first | assumption | exact Below.refl _ _ | refine below_set ?_ (by first | omega | (simp; done) | (simp; omega)) _ | refine below_drawn ?_ | refine below_drawnN ?_ _ | refine below_new ?_ _))))
      have q0_x7 : x7.cell? ⟨x6.heap.size, 0, none⟩ = some (.int .i64 mn) := below_cell_of hb_x7 (by first | (go_simp; done) | (refine below_cell_of (w := x6) ?_ (by first | assumption | (go_simp; done)); (repeat (first | assumption | exact Below.refl _ _ | refine below_set ?_ (by first | omega | (simp; done) | (simp; omega)) _ | refine below_drawn ?_ | refine below_drawnN ?_ _ | refine below_new ?_ _))))
      have q1_x7 : x7.cell? ⟨x6.heap.size, 1, none⟩ = some (.int .i64 md) := below_cell_of hb_x7 (by first | (go_simp; done) | (refine below_cell_of (w := x6) ?_ (by first | assumption | (go_simp; done)); (repeat (first | assumption | exact Below.refl _ _ | refine below_set ?_ (by first | omega | (simp; done) | (simp; omega)) _ | refine below_drawn ?_ | refine below_drawnN ?_ _ | refine below_new ?_ _))))
      go_wp2_with fail
      refine (mul_any an ad cn cd _ (by omega) (by omega)).mono ?_
      rw [E8.out]
      rintro e x8 ⟨rfl, hb_x8⟩
      have hB_x8 : Below wr.heap.size wr x8 := below_on (by first | ((repeat (first | assumption | exact Below.refl _ _ | refine below_set ?_ (by first | omega | (simp; done) | (simp; omega)) _ | refine below_drawn ?_ | refine below_drawnN ?_ _ | refine below_new ?_ _)); done) | (refine below_on hB_x7 ?_; (repeat (first | assumption | exact Below.refl _ _ | refine below_set ?_ (by first | omega | (simp; done) | (simp; omega)) _ | refine below_drawn ?_ | refine below_drawnN ?_ _ | refine below_new ?_ _)))) hb_x8
      have hz_x8 := hb_x8.size
      try simp only [World.size_setCell] at hz_x8
      try simp only [World.size_drew] at hz_x8
      try simp only [World.size_drewN] at hz_x8
      try simp only [World.size_alloc] at hz_x8
      try simp only [World.size_setCell] at hz_x8
      try simp only [World.size_drew] at hz_x8
      try simp only [World.size_drewN] at hz_x8
      try simp only [World.size_alloc] at hz_x8
      have hl0_x8 : w.heap.size < x8.heap.size := by omega
      have hl1_x8 : w.heap.size + 1 < x8.heap.size := by omega
      have hl2_x8 : w.heap.size + 2 < x8.heap.size := by omega
      have hl3_x8 : x7.heap.size < x8.heap.size := by omega
      have a0_x8 : x8.cell? ⟨w.heap.size, 0, none⟩ = some (.int .i64 an) := below_cell_of hb_x8 (by first | (go_simp; done) | (refine below_cell_of (w := x7) ?_ (by first | assumption | (go_simp; done)); (repeat (first | assumption | exact Below.refl _ _ | refine below_set ?_ (by first | omega | (simp; done) | (simp; omega)) _ | refine below_drawn ?_ | refine below_drawnN ?_ _ | refine below_new ?_ _))))
      have a1_x8 : x8.cell? ⟨w.heap.size, 1, none⟩ = some (.int .i64 ad) := below_cell_of hb_x8 (by first | (go_simp; done) | (refine below_cell_of (w := x7) ?_ (by first | assumption | (go_simp; done)); (repeat (first | assumption | exact Below.refl _ _ | refine below_set ?_ (by first | omega | (simp; done) | (simp; omega)) _ | refine below_drawn ?_ | refine below_drawnN ?_ _ | refine below_new ?_ _))))
      have b0_x8 : x8.cell? ⟨w.heap.size + 1, 0, none⟩ = some (.int .i64 bn) := below_cell_of hb_x8 (by first | (go_simp; done) | (refine below_cell_of (w := x7) ?_ (by first | assumption | (go_simp; done)); (repeat (first | assumption | exact Below.refl _ _ | refine below_set ?_ (by first | omega | (simp; done) | (simp; omega)) _ | refine below_drawn ?_ | refine below_drawnN ?_ _ | refine below_new ?_ _))))
      have b1_x8 : x8.cell? ⟨w.heap.size + 1, 1, none⟩ = some (.int .i64 bd) := below_cell_of hb_x8 (by first | (go_simp; done) | (refine below_cell_of (w := x7) ?_ (by first | assumption | (go_simp; done)); (repeat (first | assumption | exact Below.refl _ _ | refine below_set ?_ (by first | omega | (simp; done) | (simp; omega)) _ | refine below_drawn ?_ | refine below_drawnN ?_ _ | refine below_new ?_ _))))
      have c0_x8 : x8.cell? ⟨w.heap.size + 2, 0, none⟩ = some (.int .i64 cn) := below_cell_of hb_x8 (by first | (go_simp; done) | (refine below_cell_of (w := x7) ?_ (by first | assumption | (go_simp; done)); (repeat (first | assumption | exact Below.refl _ _ | refine below_set ?_ (by first | omega | (simp; done) | (simp; omega)) _ | refine below_drawn ?_ | refine below_drawnN ?_ _ | refine below_new ?_ _))))
      have c1_x8 : x8.cell? ⟨w.heap.size + 2, 1, none⟩ = some (.int .i64 cd) := below_cell_of hb_x8 (by first | (go_simp; done) | (refine below_cell_of (w := x7) ?_ (by first | assumption | (go_simp; done)); (repeat (first | assumption | exact Below.refl _ _ | refine below_set ?_ (by first | omega | (simp; done) | (simp; omega)) _ | refine below_drawn ?_ | refine below_drawnN ?_ _ | refine below_new ?_ _))))
      have d0_x8 : x8.cell? ⟨x7.heap.size, 0, none⟩ = some (.int .i64 dn) := below_cell_of hb_x8 (by first | (go_simp; done) | (refine below_cell_of (w := x7) ?_ (by first | assumption | (go_simp; done)); (repeat (first | assumption | exact Below.refl _ _ | refine below_set ?_ (by first | omega | (simp; done) | (simp; omega)) _ | refine below_drawn ?_ | refine below_drawnN ?_ _ | refine below_new ?_ _))))
      have d1_x8 : x8.cell? ⟨x7.heap.size, 1, none⟩ = some (.int .i64 dd) := below_cell_of hb_x8 (by first | (go_simp; done) | (refine below_cell_of (w := x7) ?_ (by first | assumption | (go_simp; done)); (repeat (first | assumption | exact Below.refl _ _ | refine below_set ?_ (by first | omega | (simp; done) | (simp; omega)) _ | refine below_drawn ?_ | refine below_drawnN ?_ _ | refine below_new ?_ _))))
      go_wp2_with fail
      refine (mul_any bn bd cn cd _ (by omega) (by omega)).mono ?_
      rw [E5.out]
      rintro e x9 ⟨rfl, hb_x9⟩
      have hB_x9 : Below wr.heap.size wr x9 := below_on (by first | ((repeat (first | assumption | exact Below.refl _ _ | refine below_set ?_ (by first | omega | (simp; done) | (simp; omega)) _ | refine below_drawn ?_ | refine below_drawnN ?_ _ | refine below_new ?_ _)); done) | (refine below_on hB_x8 ?_; (repeat (first | assumption | exact Below.refl _ _ | refine below_set ?_ (by first | omega | (simp; done) | (simp; omega)) _ | refine below_drawn ?_ | refine below_drawnN ?_ _ | refine below_new ?_ _)))) hb_x9
      have hz_x9 := hb_x9.size
      try simp only [World.size_setCell] at hz_x9
      try simp only [World.size_drew] at hz_x9
      try simp only [World.size_drewN] at hz_x9
      try simp only [World.size_alloc] at hz_x9
      try simp only [World.size_setCell] at hz_x9
      try simp only [World.size_drew] at hz_x9
      try simp only [World.size_drewN] at hz_x9
      try simp only [World.size_alloc] at hz_x9
      have hl0_x9 : w.heap.size + 1 < x9.heap.size := by omega
      have hl1_x9 : w.heap.size + 2 < x9.heap.size := by omega
      have hl2_x9 : x7.heap.size < x9.heap.size := by omega
      have hl3_x9 : x8.heap.size < x9.heap.size := by omega
      have b0_x9 : x9.cell? ⟨w.heap.size + 1, 0, none⟩ = some (.int .i64 bn) := below_cell_of hb_x9 (by first | (go_simp; done) | (refine below_cell_of (w := x8) ?_ (by first | assumption | (go_simp; done)); (repeat (first | assumption | exact Below.refl _ _ | refine below_set ?_ (by first | omega | (simp; done) | (simp; omega)) _ | refine below_drawn ?_ | refine below_drawnN ?_ _ | refine below_new ?_ _))))
      have b1_x9 : x9.cell? ⟨w.heap.size + 1, 1, none⟩ = some (.int .i64 bd) := below_cell_of hb_x9 (by first | (go_simp; done) | (refine below_cell_of (w := x8) ?_ (by first | assumption | (go_simp; done)); (repeat (first | assumption | exact Below.refl _ _ | refine below_set ?_ (by first | omega | (simp; done) | (simp; omega)) _ | refine below_drawn ?_ | refine below_drawnN ?_ _ | refine below_new ?_ _))))
      have c0_x9 : x9.cell? ⟨w.heap.size + 2, 0, none⟩ = some (.int .i64 cn) := below_cell_of hb_x9 (by first | (go_simp; done) | (refine below_cell_of (w := x8) ?_ (by first | assumption | (go_simp; done)); (repeat (first | assumption | exact Below.refl _ _ | refine below_set ?_ (by first | omega | (simp; done) | (simp; omega)) _ | refine below_drawn ?_ | refine below_drawnN ?_ _ | refine below_new ?_ _))))
      have c1_x9 : x9.cell? ⟨w.heap.size + 2, 1, none⟩ = some (.int .i64 cd) := below_cell_of hb_x9 (by first | (go_simp; done) | (refine below_cell_of (w := x8) ?_ (by first | assumption | (go_simp; done)); (repeat (first | assumption | exact Below.refl _ _ | refine below_set ?_ (by first | omega | (simp; done) | (simp; omega)) _ | refine below_drawn ?_ | refine below_drawnN ?_ _ | refine below_new ?_ _))))
      have d0_x9 : x9.cell? ⟨x7.heap.size, 0, none⟩ = some (.int .i64 dn) := below_cell_of hb_x9 (by first | (go_simp; done) | (refine below_cell_of (w := x8) ?_ (by first | assumption | (go_simp; done)); (repeat (first | assumption | exact Below.refl _ _ | refine below_set ?_ (by first | omega | (simp; done) | (simp; omega)) _ | refine below_drawn ?_ | refine below_drawnN ?_ _ | refine below_new ?_ _))))
      have d1_x9 : x9.cell? ⟨x7.heap.size, 1, none⟩ = some (.int .i64 dd) := below_cell_of hb_x9 (by first | (go_simp; done) | (refine below_cell_of (w := x8) ?_ (by first | assumption | (go_simp; done)); (repeat (first | assumption | exact Below.refl _ _ | refine below_set ?_ (by first | omega | (simp; done) | (simp; omega)) _ | refine below_drawn ?_ | refine below_drawnN ?_ _ | refine below_new ?_ _))))
      have w0_x9 : x9.cell? ⟨x8.heap.size, 0, none⟩ = some (.int .i64 wn) := below_cell_of hb_x9 (by first | (go_simp; done) | (refine below_cell_of (w := x8) ?_ (by first | assumption | (go_simp; done)); (repeat (first | assumption | exact Below.refl _ _ | refine below_set ?_ (by first | omega | (simp; done) | (simp; omega)) _ | refine below_drawn ?_ | refine below_drawnN ?_ _ | refine below_new ?_ _))))
      have w1_x9 : x9.cell? ⟨x8.heap.size, 1, none⟩ = some (.int .i64 wd) := below_cell_of hb_x9 (by first | (go_simp; done) | (refine below_cell_of (w := x8) ?_ (by first | assumption | (go_simp; done)); (repeat (first | assumption | exact Below.refl _ _ | refine below_set ?_ (by first | omega | (simp; done) | (simp; omega)) _ | refine below_drawn ?_ | refine below_drawnN ?_ _ | refine below_new ?_ _))))
      go_wp2_with fail
      refine (add_any wn wd on od _ (by omega) (by omega)).mono ?_
      rw [E9.out]
      rintro e x10 ⟨rfl, hb_x10⟩
      have hB_x10 : Below wr.heap.size wr x10 := below_on (by first | ((repeat (first | assumption | exact Below.refl _ _ | refine below_set ?_ (by first | omega | (simp; done) | (simp; omega)) _ | refine below_drawn ?_ | refine below_drawnN ?_ _ | refine below_new ?_ _)); done) | (refine below_on hB_x9 ?_; (repeat (first | assumption | exact Below.refl _ _ | refine below_set ?_ (by first | omega | (simp; done) | (simp; omega)) _ | refine below_drawn ?_ | refine below_drawnN ?_ _ | refine below_new ?_ _)))) hb_x10
      have hz_x10 := hb_x10.size
      try simp only [World.size_setCell] at hz_x10
      try simp only [World.size_drew] at hz_x10
      try simp only [World.size_drewN] at hz_x10
      try simp only [World.size_alloc] at hz_x10
      try simp only [World.size_setCell] at hz_x10
      try simp only [World.size_drew] at hz_x10
      try simp only [World.size_drewN] at hz_x10
      try simp only [World.size_alloc] at hz_x10
      have hl0_x10 : x7.heap.size < x10.heap.size := by omega
      have hl1_x10 : x8.heap.size < x10.heap.size := by omega
      have hl2_x10 : x9.heap.size < x10.heap.size := by omega
      have d0_x10 : x10.cell? ⟨x7.heap.size, 0, none⟩ = some (.int .i64 dn) := below_cell_of hb_x10 (by first | (go_simp; done) | (refine below_cell_of (w := x9) ?_ (by first | assumption | (go_simp; done)); (repeat (first | assumption | exact Below.refl _ _ | refine below_set ?_ (by first | omega | (simp; done) | (simp; omega)) _ | refine below_drawn ?_ | refine below_drawnN ?_ _ | refine below_new ?_ _))))
      have d1_x10 : x10.cell? ⟨x7.heap.size, 1, none⟩ = some (.int .i64 dd) := below_cell_of hb_x10 (by first | (go_simp; done) | (refine below_cell_of (w := x9) ?_ (by first | assumption | (go_simp; done)); (repeat (first | assumption | exact Below.refl _ _ | refine below_set ?_ (by first | omega | (simp; done) | (simp; omega)) _ | refine below_drawn ?_ | refine below_drawnN ?_ _ | refine below_new ?_ _))))
      have w0_x10 : x10.cell? ⟨x8.heap.size, 0, none⟩ = some (.int .i64 wn) := below_cell_of hb_x10 (by first | (go_simp; done) | (refine below_cell_of (w := x9) ?_ (by first | assumption | (go_simp; done)); (repeat (first | assumption | exact Below.refl _ _ | refine below_set ?_ (by first | omega | (simp; done) | (simp; omega)) _ | refine below_drawn ?_ | refine below_drawnN ?_ _ | refine below_new ?_ _))))
      have w1_x10 : x10.cell? ⟨x8.heap.size, 1, none⟩ = some (.int .i64 wd) := below_cell_of hb_x10 (by first | (go_simp; done) | (refine below_cell_of (w := x9) ?_ (by first | assumption | (go_simp; done)); (repeat (first | assumption | exact Below.refl _ _ | refine below_set ?_ (by first | omega | (simp; done) | (simp; omega)) _ | refine below_drawn ?_ | refine below_drawnN ?_ _ | refine below_new ?_ _))))
      have bb0_x10 : x10.cell? ⟨x9.heap.size, 0, none⟩ = some (.int .i64 on) := below_cell_of hb_x10 (by first | (go_simp; done) | (refine below_cell_of (w := x9) ?_ (by first | assumption | (go_simp; done)); (repeat (first | assumption | exact Below.refl _ _ | refine below_set ?_ (by first | omega | (simp; done) | (simp; omega)) _ | refine below_drawn ?_ | refine below_drawnN ?_ _ | refine below_new ?_ _))))
      have bb1_x10 : x10.cell? ⟨x9.heap.size, 1, none⟩ = some (.int .i64 od) := below_cell_of hb_x10 (by first | (go_simp; done) | (refine below_cell_of (w := x9) ?_ (by first | assumption | (go_simp; done)); (repeat (first | assumption | exact Below.refl _ _ | refine below_set ?_ (by first | omega | (simp; done) | (simp; omega)) _ | refine below_drawn ?_ | refine below_drawnN ?_ _ | refine below_new ?_ _))))
      go_wp2
      go_ret
      exact ⟨rfl, by exact below_on HB.out (by (repeat (first | assumption | exact Below.refl _ _ | refine below_set ?_ (by first | omega | (simp; done) | (simp; omega)) _ | refine below_drawn ?_ | refine below_drawnN ?_ _ | refine below_new ?_ _)))⟩
theorem op_le9 (an ad bn bd n d : Int) : (Rt.op an ad bn bd n d).1 ≤ 1000000000 := by
  unfold Rt.op
  split
  · split
    · show (0 : Int) ≤ 1000000000
      omega
    · unfold Rt.red
      split
      · rename_i h
        exact (Rt.fits_bd h).2.1
      · show (0 : Int) ≤ 1000000000
        omega
  · show (0 : Int) ≤ 1000000000
    omega
theorem three_of {t : Int × Int × Int} (h : t.2.2 = 0) : t = (t.1, t.2.1, 0) := by rw [← h]
theorem laws_entry (an ad bn bd cn cd : Int) (w : World) (ka : an ≤ 9223372036854775807) (kb : bn ≤ 9223372036854775807) (kc : cn ≤ 9223372036854775807) : Calls Try.prog 5 #[.agg #[.int .i64 an, .int .i64 ad], .agg #[.int .i64 bn, .int .i64 bd], .agg #[.int .i64 cn, .int .i64 cd]] w fun e w' => e = .returned (.bool true) ∧ Below w.heap.size w w' := by
  refine laws_walk an ad bn bd cn cd (Rt.add an ad bn bd).1 (Rt.add an ad bn bd).2.1 (Rt.add an ad bn bd).2.2 (Rt.mul an ad bn bd).1 (Rt.mul an ad bn bd).2.1 (Rt.mul an ad bn bd).2.2 w ka kb kc rfl (Rt.add_comm' _ _ _ _) rfl (Rt.mul_comm' _ _ _ _) ?_
  intro ta tb tc
  have sa := Rt.tiny_small ta
  have sb := Rt.tiny_small tb
  have sc := Rt.tiny_small tc
  exact ⟨Rt.small_add sa sb, Rt.small_mul sa sb, _, _, _, _, _, _, _, _, _, _, _, _, _, _, _, op_le9 _ _ _ _ _ _, op_le9 _ _ _ _ _ _, op_le9 _ _ _ _ _ _, op_le9 _ _ _ _ _ _, op_le9 _ _ _ _ _ _,
    rfl, three_of (Rt.small_add sb sc), (Rt.add_assoc' ta tb tc).symm, rfl, three_of (Rt.small_mul sb sc), (Rt.mul_assoc' ta tb tc).symm, rfl, three_of (Rt.small_mul sa sc), (Rt.distrib' ta tb tc).symm⟩
end Go.Proofs.Ytjnjokkhkfdaiaa
