/- The statements on package pacer about two packets, and about less and faster: each returns true, whatever the input, and leaves what was in memory alone. -/
import Derived.Test.YtgfcoahlmbjjoaaPaceHead
namespace Go.Proofs.Ytgfcoahlmbjjoaa
open Go.RowKit

set_option maxHeartbeats 1000000 in
set_option maxRecDepth 100000 in
theorem parts_bad (n r one two rate : Int) (w : World) (b : Bool) (hV : Pc.validB n r = b) (h : b = false ∨ one < 1 ∨ two < 1 ∨ 5000 < one ∨ 5000 < two) : Calls Try.prog 8 #[.agg #[.int .i64 n, .int .i64 r], .int .i64 one, .int .i64 two, .int .i64 rate] w fun e w' => e = .returned (.bool true) ∧ Below w.heap.size w w' := by
  have HV := Lib.hid hV
  have HH := Lib.hid h
  clear hV h
  go_enter Try.func8, Try.ntmps8
  go_wp2_with fail
  refine (head_ok _).mono ?_
  rintro e w1 ⟨rfl, hb_w1⟩
  have hB_w1 : Below w.heap.size w w1 := below_on (by (repeat (first | exact Below.refl _ _ | refine below_drawn ?_ | refine below_drawnN ?_ _ | refine below_new ?_ _))) hb_w1
  have hz_w1 := hb_w1.size
  try simp only [World.size_setCell] at hz_w1
  try simp only [World.size_drew] at hz_w1
  try simp only [World.size_drewN] at hz_w1
  try simp only [World.size_alloc] at hz_w1
  try simp only [World.size_setCell] at hz_w1
  try simp only [World.size_drew] at hz_w1
  try simp only [World.size_drewN] at hz_w1
  try simp only [World.size_alloc] at hz_w1
  have hl0_w1 : w.heap.size < w1.heap.size := by omega
  have c0_w1 : w1.cell? ⟨w.heap.size, 0, none⟩ = some (.int .i64 n) := below_cell_of hb_w1 (by first | (go_simp; done))
  have c1_w1 : w1.cell? ⟨w.heap.size, 1, none⟩ = some (.int .i64 r) := below_cell_of hb_w1 (by first | (go_simp; done))
  go_wp2_with fail
  refine (rvalid_any n r _).mono ?_
  rw [HV.out]
  rintro e w2 ⟨rfl, hb_w2⟩
  have hB_w2 : Below w.heap.size w w2 := below_on (by first | ((repeat (first | exact Below.refl _ _ | refine below_drawn ?_ | refine below_drawnN ?_ _ | refine below_new ?_ _)); done) | (refine below_on hB_w1 ?_; (repeat (first | exact Below.refl _ _ | refine below_drawn ?_ | refine below_drawnN ?_ _ | refine below_new ?_ _)))) hb_w2
  have hz_w2 := hb_w2.size
  try simp only [World.size_setCell] at hz_w2
  try simp only [World.size_drew] at hz_w2
  try simp only [World.size_drewN] at hz_w2
  try simp only [World.size_alloc] at hz_w2
  try simp only [World.size_setCell] at hz_w2
  try simp only [World.size_drew] at hz_w2
  try simp only [World.size_drewN] at hz_w2
  try simp only [World.size_alloc] at hz_w2
  have hl0_w2 : w.heap.size < w2.heap.size := by omega
  have c0_w2 : w2.cell? ⟨w.heap.size, 0, none⟩ = some (.int .i64 n) := below_cell_of hb_w2 (by first | (go_simp; done) | (refine below_cell_of (w := w1) ?_ (by first | assumption | (go_simp; done)); (repeat (first | exact Below.refl _ _ | refine below_drawn ?_ | refine below_drawnN ?_ _ | refine below_new ?_ _))))
  have c1_w2 : w2.cell? ⟨w.heap.size, 1, none⟩ = some (.int .i64 r) := below_cell_of hb_w2 (by first | (go_simp; done) | (refine below_cell_of (w := w1) ?_ (by first | assumption | (go_simp; done)); (repeat (first | exact Below.refl _ _ | refine below_drawn ?_ | refine below_drawnN ?_ _ | refine below_new ?_ _))))
  cases b
  · go_wp2
    go_ret
    exact ⟨rfl, hB_w2⟩
  · by_cases k1 : one < 1
    · go_wp2
      go_ret
      exact ⟨rfl, hB_w2⟩
    · by_cases k2 : two < 1
      · go_wp2
        go_ret
        exact ⟨rfl, hB_w2⟩
      · by_cases k3 : 5000 < one
        · go_wp2
          go_ret
          exact ⟨rfl, hB_w2⟩
        · have k4 : 5000 < two := by
            rcases HH.out with h | h | h | h | h
            · cases h
            · omega
            · omega
            · omega
            · omega
          go_wp2
          go_ret
          exact ⟨rfl, hB_w2⟩
set_option maxHeartbeats 1000000 in
set_option maxRecDepth 100000 in
theorem parts_err (n r one two rate a b c : Int) (w : World) (hV : Pc.validB n r = true) (h1 : 1 ≤ one) (h2 : 1 ≤ two) (h3 : one ≤ 5000) (h4 : two ≤ 5000) (hS : Pc.send n r n one rate = (a, b, c)) (hc : (c != 0) = true) : Calls Try.prog 8 #[.agg #[.int .i64 n, .int .i64 r], .int .i64 one, .int .i64 two, .int .i64 rate] w fun e w' => e = .returned (.bool true) ∧ Below w.heap.size w w' := by
  obtain ⟨hv0, hv1, hv2, hv3⟩ := (Pc.validB_iff n r).1 hV
  have HV := Lib.hid hV
  have HS := Lib.hid hS
  clear hV hS
  go_enter Try.func8, Try.ntmps8
  go_wp2_with fail
  refine (head_ok _).mono ?_
  rintro e w1 ⟨rfl, hb_w1⟩
  have hB_w1 : Below w.heap.size w w1 := below_on (by (repeat (first | exact Below.refl _ _ | refine below_drawn ?_ | refine below_drawnN ?_ _ | refine below_new ?_ _))) hb_w1
  have hz_w1 := hb_w1.size
  try simp only [World.size_setCell] at hz_w1
  try simp only [World.size_drew] at hz_w1
  try simp only [World.size_drewN] at hz_w1
  try simp only [World.size_alloc] at hz_w1
  try simp only [World.size_setCell] at hz_w1
  try simp only [World.size_drew] at hz_w1
  try simp only [World.size_drewN] at hz_w1
  try simp only [World.size_alloc] at hz_w1
  have hl0_w1 : w.heap.size < w1.heap.size := by omega
  have c0_w1 : w1.cell? ⟨w.heap.size, 0, none⟩ = some (.int .i64 n) := below_cell_of hb_w1 (by first | (go_simp; done))
  have c1_w1 : w1.cell? ⟨w.heap.size, 1, none⟩ = some (.int .i64 r) := below_cell_of hb_w1 (by first | (go_simp; done))
  go_wp2_with fail
  refine (rvalid_any n r _).mono ?_
  rw [HV.out]
  rintro e w2 ⟨rfl, hb_w2⟩
  have hB_w2 : Below w.heap.size w w2 := below_on (by first | ((repeat (first | exact Below.refl _ _ | refine below_drawn ?_ | refine below_drawnN ?_ _ | refine below_new ?_ _)); done) | (refine below_on hB_w1 ?_; (repeat (first | exact Below.refl _ _ | refine below_drawn ?_ | refine below_drawnN ?_ _ | refine below_new ?_ _)))) hb_w2
  have hz_w2 := hb_w2.size
  try simp only [World.size_setCell] at hz_w2
  try simp only [World.size_drew] at hz_w2
  try simp only [World.size_drewN] at hz_w2
  try simp only [World.size_alloc] at hz_w2
  try simp only [World.size_setCell] at hz_w2
  try simp only [World.size_drew] at hz_w2
  try simp only [World.size_drewN] at hz_w2
  try simp only [World.size_alloc] at hz_w2
  have hl0_w2 : w.heap.size < w2.heap.size := by omega
  have c0_w2 : w2.cell? ⟨w.heap.size, 0, none⟩ = some (.int .i64 n) := below_cell_of hb_w2 (by first | (go_simp; done) | (refine below_cell_of (w := w1) ?_ (by first | assumption | (go_simp; done)); (repeat (first | exact Below.refl _ _ | refine below_drawn ?_ | refine below_drawnN ?_ _ | refine below_new ?_ _))))
  have c1_w2 : w2.cell? ⟨w.heap.size, 1, none⟩ = some (.int .i64 r) := below_cell_of hb_w2 (by first | (go_simp; done) | (refine below_cell_of (w := w1) ?_ (by first | assumption | (go_simp; done)); (repeat (first | exact Below.refl _ _ | refine below_drawn ?_ | refine below_drawnN ?_ _ | refine below_new ?_ _))))
  go_wp2_with fail
  refine (send_any n r n one rate _).mono ?_
  rw [HS.out]
  rintro e w3 ⟨rfl, hb_w3⟩
  have hB_w3 : Below w.heap.size w w3 := below_on (by first | ((repeat (first | exact Below.refl _ _ | refine below_drawn ?_ | refine below_drawnN ?_ _ | refine below_new ?_ _)); done) | (refine below_on hB_w2 ?_; (repeat (first | exact Below.refl _ _ | refine below_drawn ?_ | refine below_drawnN ?_ _ | refine below_new ?_ _)))) hb_w3
  have hz_w3 := hb_w3.size
  try simp only [World.size_setCell] at hz_w3
  try simp only [World.size_drew] at hz_w3
  try simp only [World.size_drewN] at hz_w3
  try simp only [World.size_alloc] at hz_w3
  try simp only [World.size_setCell] at hz_w3
  try simp only [World.size_drew] at hz_w3
  try simp only [World.size_drewN] at hz_w3
  try simp only [World.size_alloc] at hz_w3
  have hl0_w3 : w.heap.size < w3.heap.size := by omega
  have c0_w3 : w3.cell? ⟨w.heap.size, 0, none⟩ = some (.int .i64 n) := below_cell_of hb_w3 (by first | (go_simp; done) | (refine below_cell_of (w := w2) ?_ (by first | assumption | (go_simp; done)); (repeat (first | exact Below.refl _ _ | refine below_drawn ?_ | refine below_drawnN ?_ _ | refine below_new ?_ _))))
  have c1_w3 : w3.cell? ⟨w.heap.size, 1, none⟩ = some (.int .i64 r) := below_cell_of hb_w3 (by first | (go_simp; done) | (refine below_cell_of (w := w2) ?_ (by first | assumption | (go_simp; done)); (repeat (first | exact Below.refl _ _ | refine below_drawn ?_ | refine below_drawnN ?_ _ | refine below_new ?_ _))))
  go_wp2
  go_ret
  exact ⟨rfl, by first | exact hB_w3 | exact below_new hB_w3 _⟩
set_option maxHeartbeats 1000000 in
set_option maxRecDepth 100000 in
theorem parts_far (n r one two rate a b : Int) (w : World) (hV : Pc.validB n r = true) (h1 : 1 ≤ one) (h2 : 1 ≤ two) (h3 : one ≤ 5000) (h4 : two ≤ 5000) (hS : Pc.send n r n one rate = (a, b, 0)) (ha : 20000000 < a) : Calls Try.prog 8 #[.agg #[.int .i64 n, .int .i64 r], .int .i64 one, .int .i64 two, .int .i64 rate] w fun e w' => e = .returned (.bool true) ∧ Below w.heap.size w w' := by
  obtain ⟨hv0, hv1, hv2, hv3⟩ := (Pc.validB_iff n r).1 hV
  have HV := Lib.hid hV
  have HS := Lib.hid hS
  clear hV hS
  go_enter Try.func8, Try.ntmps8
  go_wp2_with fail
  refine (head_ok _).mono ?_
  rintro e w1 ⟨rfl, hb_w1⟩
  have hB_w1 : Below w.heap.size w w1 := below_on (by (repeat (first | exact Below.refl _ _ | refine below_drawn ?_ | refine below_drawnN ?_ _ | refine below_new ?_ _))) hb_w1
  have hz_w1 := hb_w1.size
  try simp only [World.size_setCell] at hz_w1
  try simp only [World.size_drew] at hz_w1
  try simp only [World.size_drewN] at hz_w1
  try simp only [World.size_alloc] at hz_w1
  try simp only [World.size_setCell] at hz_w1
  try simp only [World.size_drew] at hz_w1
  try simp only [World.size_drewN] at hz_w1
  try simp only [World.size_alloc] at hz_w1
  have hl0_w1 : w.heap.size < w1.heap.size := by omega
  have c0_w1 : w1.cell? ⟨w.heap.size, 0, none⟩ = some (.int .i64 n) := below_cell_of hb_w1 (by first | (go_simp; done))
  have c1_w1 : w1.cell? ⟨w.heap.size, 1, none⟩ = some (.int .i64 r) := below_cell_of hb_w1 (by first | (go_simp; done))
  go_wp2_with fail
  refine (rvalid_any n r _).mono ?_
  rw [HV.out]
  rintro e w2 ⟨rfl, hb_w2⟩
  have hB_w2 : Below w.heap.size w w2 := below_on (by first | ((repeat (first | exact Below.refl _ _ | refine below_drawn ?_ | refine below_drawnN ?_ _ | refine below_new ?_ _)); done) | (refine below_on hB_w1 ?_; (repeat (first | exact Below.refl _ _ | refine below_drawn ?_ | refine below_drawnN ?_ _ | refine below_new ?_ _)))) hb_w2
  have hz_w2 := hb_w2.size
  try simp only [World.size_setCell] at hz_w2
  try simp only [World.size_drew] at hz_w2
  try simp only [World.size_drewN] at hz_w2
  try simp only [World.size_alloc] at hz_w2
  try simp only [World.size_setCell] at hz_w2
  try simp only [World.size_drew] at hz_w2
  try simp only [World.size_drewN] at hz_w2
  try simp only [World.size_alloc] at hz_w2
  have hl0_w2 : w.heap.size < w2.heap.size := by omega
  have c0_w2 : w2.cell? ⟨w.heap.size, 0, none⟩ = some (.int .i64 n) := below_cell_of hb_w2 (by first | (go_simp; done) | (refine below_cell_of (w := w1) ?_ (by first | assumption | (go_simp; done)); (repeat (first | exact Below.refl _ _ | refine below_drawn ?_ | refine below_drawnN ?_ _ | refine below_new ?_ _))))
  have c1_w2 : w2.cell? ⟨w.heap.size, 1, none⟩ = some (.int .i64 r) := below_cell_of hb_w2 (by first | (go_simp; done) | (refine below_cell_of (w := w1) ?_ (by first | assumption | (go_simp; done)); (repeat (first | exact Below.refl _ _ | refine below_drawn ?_ | refine below_drawnN ?_ _ | refine below_new ?_ _))))
  go_wp2_with fail
  refine (send_any n r n one rate _).mono ?_
  rw [HS.out]
  rintro e w3 ⟨rfl, hb_w3⟩
  have hB_w3 : Below w.heap.size w w3 := below_on (by first | ((repeat (first | exact Below.refl _ _ | refine below_drawn ?_ | refine below_drawnN ?_ _ | refine below_new ?_ _)); done) | (refine below_on hB_w2 ?_; (repeat (first | exact Below.refl _ _ | refine below_drawn ?_ | refine below_drawnN ?_ _ | refine below_new ?_ _)))) hb_w3
  have hz_w3 := hb_w3.size
  try simp only [World.size_setCell] at hz_w3
  try simp only [World.size_drew] at hz_w3
  try simp only [World.size_drewN] at hz_w3
  try simp only [World.size_alloc] at hz_w3
  try simp only [World.size_setCell] at hz_w3
  try simp only [World.size_drew] at hz_w3
  try simp only [World.size_drewN] at hz_w3
  try simp only [World.size_alloc] at hz_w3
  have hl0_w3 : w.heap.size < w3.heap.size := by omega
  have c0_w3 : w3.cell? ⟨w.heap.size, 0, none⟩ = some (.int .i64 n) := below_cell_of hb_w3 (by first | (go_simp; done) | (refine below_cell_of (w := w2) ?_ (by first | assumption | (go_simp; done)); (repeat (first | exact Below.refl _ _ | refine below_drawn ?_ | refine below_drawnN ?_ _ | refine below_new ?_ _))))
  have c1_w3 : w3.cell? ⟨w.heap.size, 1, none⟩ = some (.int .i64 r) := below_cell_of hb_w3 (by first | (go_simp; done) | (refine below_cell_of (w := w2) ?_ (by first | assumption | (go_simp; done)); (repeat (first | exact Below.refl _ _ | refine below_drawn ?_ | refine below_drawnN ?_ _ | refine below_new ?_ _))))
  go_wp2
  go_ret
  exact ⟨rfl, by first | exact hB_w3 | exact below_new hB_w3 _⟩
set_option maxHeartbeats 1000000 in
set_option maxRecDepth 100000 in
theorem parts_good (n r one two rate a b x y : Int) (w : World) (hV : Pc.validB n r = true) (h1 : 1 ≤ one) (h2 : 1 ≤ two) (h3 : one ≤ 5000) (h4 : two ≤ 5000) (hS : Pc.send n r n one rate = (a, b, 0)) (ha : a ≤ 20000000) (hT : Pc.send a b a two rate = (x, y, 0)) (hU : Pc.send n r n (one + two) rate = (x, y, 0)) : Calls Try.prog 8 #[.agg #[.int .i64 n, .int .i64 r], .int .i64 one, .int .i64 two, .int .i64 rate] w fun e w' => e = .returned (.bool true) ∧ Below w.heap.size w w' := by
  obtain ⟨hv0, hv1, hv2, hv3⟩ := (Pc.validB_iff n r).1 hV
  have HV := Lib.hid hV
  have HS := Lib.hid hS
  have HT := Lib.hid hT
  have HU := Lib.hid hU
  clear hV hS hT hU
  go_enter Try.func8, Try.ntmps8
  go_wp2_with fail
  refine (head_ok _).mono ?_
  rintro e w1 ⟨rfl, hb_w1⟩
  have hB_w1 : Below w.heap.size w w1 := below_on (by (repeat (first | exact Below.refl _ _ | refine below_drawn ?_ | refine below_drawnN ?_ _ | refine below_new ?_ _))) hb_w1
  have hz_w1 := hb_w1.size
  try simp only [World.size_setCell] at hz_w1
  try simp only [World.size_drew] at hz_w1
  try simp only [World.size_drewN] at hz_w1
  try simp only [World.size_alloc] at hz_w1
  try simp only [World.size_setCell] at hz_w1
  try simp only [World.size_drew] at hz_w1
  try simp only [World.size_drewN] at hz_w1
  try simp only [World.size_alloc] at hz_w1
  have hl0_w1 : w.heap.size < w1.heap.size := by omega
  have c0_w1 : w1.cell? ⟨w.heap.size, 0, none⟩ = some (.int .i64 n) := below_cell_of hb_w1 (by first | (go_simp; done))
  have c1_w1 : w1.cell? ⟨w.heap.size, 1, none⟩ = some (.int .i64 r) := below_cell_of hb_w1 (by first | (go_simp; done))
  go_wp2_with fail
  refine (rvalid_any n r _).mono ?_
  rw [HV.out]
  rintro e w2 ⟨rfl, hb_w2⟩
  have hB_w2 : Below w.heap.size w w2 := below_on (by first | ((repeat (first | exact Below.refl _ _ | refine below_drawn ?_ | refine below_drawnN ?_ _ | refine below_new ?_ _)); done) | (refine below_on hB_w1 ?_; (repeat (first | exact Below.refl _ _ | refine below_drawn ?_ | refine below_drawnN ?_ _ | refine below_new ?_ _)))) hb_w2
  have hz_w2 := hb_w2.size
  try simp only [World.size_setCell] at hz_w2
  try simp only [World.size_drew] at hz_w2
  try simp only [World.size_drewN] at hz_w2
  try simp only [World.size_alloc] at hz_w2
  try simp only [World.size_setCell] at hz_w2
  try simp only [World.size_drew] at hz_w2
  try simp only [World.size_drewN] at hz_w2
  try simp only [World.size_alloc] at hz_w2
  have hl0_w2 : w.heap.size < w2.heap.size := by omega
  have c0_w2 : w2.cell? ⟨w.heap.size, 0, none⟩ = some (.int .i64 n) := below_cell_of hb_w2 (by first | (go_simp; done) | (refine below_cell_of (w := w1) ?_ (by first | assumption | (go_simp; done)); (repeat (first | exact Below.refl _ _ | refine below_drawn ?_ | refine below_drawnN ?_ _ | refine below_new ?_ _))))
  have c1_w2 : w2.cell? ⟨w.heap.size, 1, none⟩ = some (.int .i64 r) := below_cell_of hb_w2 (by first | (go_simp; done) | (refine below_cell_of (w := w1) ?_ (by first | assumption | (go_simp; done)); (repeat (first | exact Below.refl _ _ | refine below_drawn ?_ | refine below_drawnN ?_ _ | refine below_new ?_ _))))
  go_wp2_with fail
  refine (send_any n r n one rate _).mono ?_
  rw [HS.out]
  rintro e w3 ⟨rfl, hb_w3⟩
  have hB_w3 : Below w.heap.size w w3 := below_on (by first | ((repeat (first | exact Below.refl _ _ | refine below_drawn ?_ | refine below_drawnN ?_ _ | refine below_new ?_ _)); done) | (refine below_on hB_w2 ?_; (repeat (first | exact Below.refl _ _ | refine below_drawn ?_ | refine below_drawnN ?_ _ | refine below_new ?_ _)))) hb_w3
  have hz_w3 := hb_w3.size
  try simp only [World.size_setCell] at hz_w3
  try simp only [World.size_drew] at hz_w3
  try simp only [World.size_drewN] at hz_w3
  try simp only [World.size_alloc] at hz_w3
  try simp only [World.size_setCell] at hz_w3
  try simp only [World.size_drew] at hz_w3
  try simp only [World.size_drewN] at hz_w3
  try simp only [World.size_alloc] at hz_w3
  have hl0_w3 : w.heap.size < w3.heap.size := by omega
  have c0_w3 : w3.cell? ⟨w.heap.size, 0, none⟩ = some (.int .i64 n) := below_cell_of hb_w3 (by first | (go_simp; done) | (refine below_cell_of (w := w2) ?_ (by first | assumption | (go_simp; done)); (repeat (first | exact Below.refl _ _ | refine below_drawn ?_ | refine below_drawnN ?_ _ | refine below_new ?_ _))))
  have c1_w3 : w3.cell? ⟨w.heap.size, 1, none⟩ = some (.int .i64 r) := below_cell_of hb_w3 (by first | (go_simp; done) | (refine below_cell_of (w := w2) ?_ (by first | assumption | (go_simp; done)); (repeat (first | exact Below.refl _ _ | refine below_drawn ?_ | refine below_drawnN ?_ _ | refine below_new ?_ _))))
  go_wp2_with fail
  refine (send_any a b a two rate _).mono ?_
  rw [HT.out]
  rintro e w4 ⟨rfl, hb_w4⟩
  have hB_w4 : Below w.heap.size w w4 := below_on (by first | ((repeat (first | exact Below.refl _ _ | refine below_drawn ?_ | refine below_drawnN ?_ _ | refine below_new ?_ _)); done) | (refine below_on hB_w3 ?_; (repeat (first | exact Below.refl _ _ | refine below_drawn ?_ | refine below_drawnN ?_ _ | refine below_new ?_ _)))) hb_w4
  have hz_w4 := hb_w4.size
  try simp only [World.size_setCell] at hz_w4
  try simp only [World.size_drew] at hz_w4
  try simp only [World.size_drewN] at hz_w4
  try simp only [World.size_alloc] at hz_w4
  try simp only [World.size_setCell] at hz_w4
  try simp only [World.size_drew] at hz_w4
  try simp only [World.size_drewN] at hz_w4
  try simp only [World.size_alloc] at hz_w4
  have hl0_w4 : w.heap.size < w4.heap.size := by omega
  have hl1_w4 : w3.heap.size < w4.heap.size := by omega
  have c0_w4 : w4.cell? ⟨w.heap.size, 0, none⟩ = some (.int .i64 n) := below_cell_of hb_w4 (by first | (go_simp; done) | (refine below_cell_of (w := w3) ?_ (by first | assumption | (go_simp; done)); (repeat (first | exact Below.refl _ _ | refine below_drawn ?_ | refine below_drawnN ?_ _ | refine below_new ?_ _))))
  have c1_w4 : w4.cell? ⟨w.heap.size, 1, none⟩ = some (.int .i64 r) := below_cell_of hb_w4 (by first | (go_simp; done) | (refine below_cell_of (w := w3) ?_ (by first | assumption | (go_simp; done)); (repeat (first | exact Below.refl _ _ | refine below_drawn ?_ | refine below_drawnN ?_ _ | refine below_new ?_ _))))
  have d0_w4 : w4.cell? ⟨w3.heap.size, 0, none⟩ = some (.int .i64 a) := below_cell_of hb_w4 (by first | (go_simp; done) | (refine below_cell_of (w := w3) ?_ (by first | assumption | (go_simp; done)); (repeat (first | exact Below.refl _ _ | refine below_drawn ?_ | refine below_drawnN ?_ _ | refine below_new ?_ _))))
  have d1_w4 : w4.cell? ⟨w3.heap.size, 1, none⟩ = some (.int .i64 b) := below_cell_of hb_w4 (by first | (go_simp; done) | (refine below_cell_of (w := w3) ?_ (by first | assumption | (go_simp; done)); (repeat (first | exact Below.refl _ _ | refine below_drawn ?_ | refine below_drawnN ?_ _ | refine below_new ?_ _))))
  go_wp2_with fail
  refine (send_any n r n (one + two) rate _).mono ?_
  rw [HU.out]
  rintro e w5 ⟨rfl, hb_w5⟩
  have hB_w5 : Below w.heap.size w w5 := below_on (by first | ((repeat (first | exact Below.refl _ _ | refine below_drawn ?_ | refine below_drawnN ?_ _ | refine below_new ?_ _)); done) | (refine below_on hB_w4 ?_; (repeat (first | exact Below.refl _ _ | refine below_drawn ?_ | refine below_drawnN ?_ _ | refine below_new ?_ _)))) hb_w5
  have hz_w5 := hb_w5.size
  try simp only [World.size_setCell] at hz_w5
  try simp only [World.size_drew] at hz_w5
  try simp only [World.size_drewN] at hz_w5
  try simp only [World.size_alloc] at hz_w5
  try simp only [World.size_setCell] at hz_w5
  try simp only [World.size_drew] at hz_w5
  try simp only [World.size_drewN] at hz_w5
  try simp only [World.size_alloc] at hz_w5
  have hl0_w5 : w.heap.size < w5.heap.size := by omega
  have hl1_w5 : w3.heap.size < w5.heap.size := by omega
  have hl2_w5 : w4.heap.size < w5.heap.size := by omega
  have c0_w5 : w5.cell? ⟨w.heap.size, 0, none⟩ = some (.int .i64 n) := below_cell_of hb_w5 (by first | (go_simp; done) | (refine below_cell_of (w := w4) ?_ (by first | assumption | (go_simp; done)); (repeat (first | exact Below.refl _ _ | refine below_drawn ?_ | refine below_drawnN ?_ _ | refine below_new ?_ _))))
  have c1_w5 : w5.cell? ⟨w.heap.size, 1, none⟩ = some (.int .i64 r) := below_cell_of hb_w5 (by first | (go_simp; done) | (refine below_cell_of (w := w4) ?_ (by first | assumption | (go_simp; done)); (repeat (first | exact Below.refl _ _ | refine below_drawn ?_ | refine below_drawnN ?_ _ | refine below_new ?_ _))))
  have d0_w5 : w5.cell? ⟨w3.heap.size, 0, none⟩ = some (.int .i64 a) := below_cell_of hb_w5 (by first | (go_simp; done) | (refine below_cell_of (w := w4) ?_ (by first | assumption | (go_simp; done)); (repeat (first | exact Below.refl _ _ | refine below_drawn ?_ | refine below_drawnN ?_ _ | refine below_new ?_ _))))
  have d1_w5 : w5.cell? ⟨w3.heap.size, 1, none⟩ = some (.int .i64 b) := below_cell_of hb_w5 (by first | (go_simp; done) | (refine below_cell_of (w := w4) ?_ (by first | assumption | (go_simp; done)); (repeat (first | exact Below.refl _ _ | refine below_drawn ?_ | refine below_drawnN ?_ _ | refine below_new ?_ _))))
  have e0_w5 : w5.cell? ⟨w4.heap.size, 0, none⟩ = some (.int .i64 x) := below_cell_of hb_w5 (by first | (go_simp; done) | (refine below_cell_of (w := w4) ?_ (by first | assumption | (go_simp; done)); (repeat (first | exact Below.refl _ _ | refine below_drawn ?_ | refine below_drawnN ?_ _ | refine below_new ?_ _))))
  have e1_w5 : w5.cell? ⟨w4.heap.size, 1, none⟩ = some (.int .i64 y) := below_cell_of hb_w5 (by first | (go_simp; done) | (refine below_cell_of (w := w4) ?_ (by first | assumption | (go_simp; done)); (repeat (first | exact Below.refl _ _ | refine below_drawn ?_ | refine below_drawnN ?_ _ | refine below_new ?_ _))))
  go_wp2
  go_ret
  exact ⟨rfl, by first | exact hB_w5 | exact below_new hB_w5 _⟩
theorem parts_walk (n r one two rate : Int) (w : World) : Calls Try.prog 8 #[.agg #[.int .i64 n, .int .i64 r], .int .i64 one, .int .i64 two, .int .i64 rate] w fun e w' => e = .returned (.bool true) ∧ Below w.heap.size w w' := by
  cases hV : Pc.validB n r with
  | false => exact parts_bad n r one two rate w _ hV (.inl rfl)
  | true =>
    by_cases h : one < 1 ∨ two < 1 ∨ 5000 < one ∨ 5000 < two
    · exact parts_bad n r one two rate w _ hV (.inr h)
    · obtain ⟨a, b, c, hS⟩ : ∃ a b c, Pc.send n r n one rate = (a, b, c) := ⟨_, _, _, rfl⟩
      by_cases hc : c = 0
      · subst hc
        by_cases ha : 20000000 < a
        · exact parts_far n r one two rate a b w hV (by omega) (by omega) (by omega) (by omega) hS ha
        · have hp := Pc.parts (n := n) (r := r) (a := one) (b := two) (rate := rate) hV ⟨by omega, by omega⟩ ⟨by omega, by omega⟩ (by rw [hS]) (by rw [hS]; simp only; omega)
          rw [hS] at hp
          obtain ⟨x, y, z, hT⟩ : ∃ x y z, Pc.send a b a two rate = (x, y, z) := ⟨_, _, _, rfl⟩
          simp only [hT] at hp
          obtain ⟨hz, hU⟩ := hp
          subst hz
          exact parts_good n r one two rate a b x y w hV (by omega) (by omega) (by omega) (by omega) hS (by omega) hT hU.symm
      · exact parts_err n r one two rate a b c w hV (by omega) (by omega) (by omega) (by omega) hS (by rw [bne_iff_ne]; exact hc)
set_option maxHeartbeats 1000000 in
set_option maxRecDepth 100000 in
theorem less_bad (now size less rate more : Int) (w : World) (h : less < 0 ∨ more < 0 ∨ 10000 < less ∨ 1000000 < more) : Calls Try.prog 9 #[.int .i64 now, .int .i64 size, .int .i64 less, .int .i64 rate, .int .i64 more] w fun e w' => e = .returned (.bool true) ∧ Below w.heap.size w w' := by
  have HH := Lib.hid h
  clear h
  go_enter Try.func9, Try.ntmps9
  go_wp2_with fail
  refine (head_ok _).mono ?_
  rintro e w1 ⟨rfl, hb_w1⟩
  have hB_w1 : Below w.heap.size w w1 := below_on (by (repeat (first | exact Below.refl _ _ | refine below_drawn ?_ | refine below_drawnN ?_ _ | refine below_new ?_ _))) hb_w1
  have hz_w1 := hb_w1.size
  try simp only [World.size_setCell] at hz_w1
  try simp only [World.size_drew] at hz_w1
  try simp only [World.size_drewN] at hz_w1
  try simp only [World.size_alloc] at hz_w1
  try simp only [World.size_setCell] at hz_w1
  try simp only [World.size_drew] at hz_w1
  try simp only [World.size_drewN] at hz_w1
  try simp only [World.size_alloc] at hz_w1
  by_cases k1 : less < 0
  · go_wp2
    go_ret
    exact ⟨rfl, hB_w1⟩
  · by_cases k2 : more < 0
    · go_wp2
      go_ret
      exact ⟨rfl, hB_w1⟩
    · by_cases k3 : 10000 < less
      · go_wp2
        go_ret
        exact ⟨rfl, hB_w1⟩
      · have k4 : 1000000 < more := by
          have := HH.out
          omega
        go_wp2
        go_ret
        exact ⟨rfl, hB_w1⟩
set_option maxHeartbeats 1000000 in
set_option maxRecDepth 100000 in
theorem less_err (now size less rate more a b c : Int) (w : World) (h1 : 0 ≤ less) (h2 : 0 ≤ more) (h3 : less ≤ 10000) (h4 : more ≤ 1000000) (hS : Pc.send 0 0 now size rate = (a, b, c)) (hc : (c != 0) = true) : Calls Try.prog 9 #[.int .i64 now, .int .i64 size, .int .i64 less, .int .i64 rate, .int .i64 more] w fun e w' => e = .returned (.bool true) ∧ Below w.heap.size w w' := by
  have HS := Lib.hid hS
  clear hS
  go_enter Try.func9, Try.ntmps9
  go_wp2_with fail
  refine (head_ok _).mono ?_
  rintro e w1 ⟨rfl, hb_w1⟩
  have hB_w1 : Below w.heap.size w w1 := below_on (by (repeat (first | exact Below.refl _ _ | refine below_drawn ?_ | refine below_drawnN ?_ _ | refine below_new ?_ _))) hb_w1
  have hz_w1 := hb_w1.size
  try simp only [World.size_setCell] at hz_w1
  try simp only [World.size_drew] at hz_w1
  try simp only [World.size_drewN] at hz_w1
  try simp only [World.size_alloc] at hz_w1
  try simp only [World.size_setCell] at hz_w1
  try simp only [World.size_drew] at hz_w1
  try simp only [World.size_drewN] at hz_w1
  try simp only [World.size_alloc] at hz_w1
  go_wp2_with fail
  refine (send_any 0 0 now size rate _).mono ?_
  rw [HS.out]
  rintro e w2 ⟨rfl, hb_w2⟩
  have hB_w2 : Below w.heap.size w w2 := below_on (by first | ((repeat (first | exact Below.refl _ _ | refine below_drawn ?_ | refine below_drawnN ?_ _ | refine below_new ?_ _)); done) | (refine below_on hB_w1 ?_; (repeat (first | exact Below.refl _ _ | refine below_drawn ?_ | refine below_drawnN ?_ _ | refine below_new ?_ _)))) hb_w2
  have hz_w2 := hb_w2.size
  try simp only [World.size_setCell] at hz_w2
  try simp only [World.size_drew] at hz_w2
  try simp only [World.size_drewN] at hz_w2
  try simp only [World.size_alloc] at hz_w2
  try simp only [World.size_setCell] at hz_w2
  try simp only [World.size_drew] at hz_w2
  try simp only [World.size_drewN] at hz_w2
  try simp only [World.size_alloc] at hz_w2
  go_wp2_with fail
  refine (send_any 0 0 now _ _ _).mono ?_
  rintro e w3 ⟨rfl, hb_w3⟩
  have hB_w3 : Below w.heap.size w w3 := below_on (by first | ((repeat (first | exact Below.refl _ _ | refine below_drawn ?_ | refine below_drawnN ?_ _ | refine below_new ?_ _)); done) | (refine below_on hB_w2 ?_; (repeat (first | exact Below.refl _ _ | refine below_drawn ?_ | refine below_drawnN ?_ _ | refine below_new ?_ _)))) hb_w3
  have hz_w3 := hb_w3.size
  try simp only [World.size_setCell] at hz_w3
  try simp only [World.size_drew] at hz_w3
  try simp only [World.size_drewN] at hz_w3
  try simp only [World.size_alloc] at hz_w3
  try simp only [World.size_setCell] at hz_w3
  try simp only [World.size_drew] at hz_w3
  try simp only [World.size_drewN] at hz_w3
  try simp only [World.size_alloc] at hz_w3
  have hl0_w3 : w2.heap.size < w3.heap.size := by omega
  have d0_w3 : w3.cell? ⟨w2.heap.size, 0, none⟩ = some (.int .i64 a) := below_cell_of hb_w3 (by first | (go_simp; done) | (refine below_cell_of (w := w2) ?_ (by first | assumption | (go_simp; done)); (repeat (first | exact Below.refl _ _ | refine below_drawn ?_ | refine below_drawnN ?_ _ | refine below_new ?_ _))))
  have d1_w3 : w3.cell? ⟨w2.heap.size, 1, none⟩ = some (.int .i64 b) := below_cell_of hb_w3 (by first | (go_simp; done) | (refine below_cell_of (w := w2) ?_ (by first | assumption | (go_simp; done)); (repeat (first | exact Below.refl _ _ | refine below_drawn ?_ | refine below_drawnN ?_ _ | refine below_new ?_ _))))
  go_wp2
  go_ret
  exact ⟨rfl, by first | exact hB_w3 | exact below_new hB_w3 _⟩
set_option maxHeartbeats 1000000 in
set_option maxRecDepth 100000 in
theorem less_good (now size less rate more a b x y z : Int) (w : World) (h1 : 0 ≤ less) (h2 : 0 ≤ more) (h3 : less ≤ 10000) (h4 : more ≤ 1000000) (g1 : 1 ≤ size) (g2 : size ≤ 10000) (g3 : 1 ≤ rate) (g4 : rate ≤ 1000000) (hS : Pc.send 0 0 now size rate = (a, b, 0)) (hT : Pc.send 0 0 now (size - less) (rate + more) = (x, y, z)) (hx : z = 0 → x ≤ a) : Calls Try.prog 9 #[.int .i64 now, .int .i64 size, .int .i64 less, .int .i64 rate, .int .i64 more] w fun e w' => e = .returned (.bool true) ∧ Below w.heap.size w w' := by
  have HS := Lib.hid hS
  have HT := Lib.hid hT
  have HX := Lib.hid hx
  clear hS hT hx
  go_enter Try.func9, Try.ntmps9
  go_wp2_with fail
  refine (head_ok _).mono ?_
  rintro e w1 ⟨rfl, hb_w1⟩
  have hB_w1 : Below w.heap.size w w1 := below_on (by (repeat (first | exact Below.refl _ _ | refine below_drawn ?_ | refine below_drawnN ?_ _ | refine below_new ?_ _))) hb_w1
  have hz_w1 := hb_w1.size
  try simp only [World.size_setCell] at hz_w1
  try simp only [World.size_drew] at hz_w1
  try simp only [World.size_drewN] at hz_w1
  try simp only [World.size_alloc] at hz_w1
  try simp only [World.size_setCell] at hz_w1
  try simp only [World.size_drew] at hz_w1
  try simp only [World.size_drewN] at hz_w1
  try simp only [World.size_alloc] at hz_w1
  go_wp2_with fail
  refine (send_any 0 0 now size rate _).mono ?_
  rw [HS.out]
  rintro e w2 ⟨rfl, hb_w2⟩
  have hB_w2 : Below w.heap.size w w2 := below_on (by first | ((repeat (first | exact Below.refl _ _ | refine below_drawn ?_ | refine below_drawnN ?_ _ | refine below_new ?_ _)); done) | (refine below_on hB_w1 ?_; (repeat (first | exact Below.refl _ _ | refine below_drawn ?_ | refine below_drawnN ?_ _ | refine below_new ?_ _)))) hb_w2
  have hz_w2 := hb_w2.size
  try simp only [World.size_setCell] at hz_w2
  try simp only [World.size_drew] at hz_w2
  try simp only [World.size_drewN] at hz_w2
  try simp only [World.size_alloc] at hz_w2
  try simp only [World.size_setCell] at hz_w2
  try simp only [World.size_drew] at hz_w2
  try simp only [World.size_drewN] at hz_w2
  try simp only [World.size_alloc] at hz_w2
  go_wp2_with fail
  refine (send_any 0 0 now (size - less) (rate + more) _).mono ?_
  rw [HT.out]
  rintro e w3 ⟨rfl, hb_w3⟩
  have hB_w3 : Below w.heap.size w w3 := below_on (by first | ((repeat (first | exact Below.refl _ _ | refine below_drawn ?_ | refine below_drawnN ?_ _ | refine below_new ?_ _)); done) | (refine below_on hB_w2 ?_; (repeat (first | exact Below.refl _ _ | refine below_drawn ?_ | refine below_drawnN ?_ _ | refine below_new ?_ _)))) hb_w3
  have hz_w3 := hb_w3.size
  try simp only [World.size_setCell] at hz_w3
  try simp only [World.size_drew] at hz_w3
  try simp only [World.size_drewN] at hz_w3
  try simp only [World.size_alloc] at hz_w3
  try simp only [World.size_setCell] at hz_w3
  try simp only [World.size_drew] at hz_w3
  try simp only [World.size_drewN] at hz_w3
  try simp only [World.size_alloc] at hz_w3
  have hl0_w3 : w2.heap.size < w3.heap.size := by omega
  have d0_w3 : w3.cell? ⟨w2.heap.size, 0, none⟩ = some (.int .i64 a) := below_cell_of hb_w3 (by first | (go_simp; done) | (refine below_cell_of (w := w2) ?_ (by first | assumption | (go_simp; done)); (repeat (first | exact Below.refl _ _ | refine below_drawn ?_ | refine below_drawnN ?_ _ | refine below_new ?_ _))))
  have d1_w3 : w3.cell? ⟨w2.heap.size, 1, none⟩ = some (.int .i64 b) := below_cell_of hb_w3 (by first | (go_simp; done) | (refine below_cell_of (w := w2) ?_ (by first | assumption | (go_simp; done)); (repeat (first | exact Below.refl _ _ | refine below_drawn ?_ | refine below_drawnN ?_ _ | refine below_new ?_ _))))
  by_cases hz : z = 0
  · subst hz
    have hx := HX.out rfl
    go_wp2
    go_ret
    exact ⟨rfl, below_new hB_w3 _⟩
  · have hn : (z != 0) = true := by rw [bne_iff_ne]; exact hz
    clear hz
    go_wp2
    go_ret
    exact ⟨rfl, below_new hB_w3 _⟩
theorem less_walk (now size less rate more : Int) (w : World) : Calls Try.prog 9 #[.int .i64 now, .int .i64 size, .int .i64 less, .int .i64 rate, .int .i64 more] w fun e w' => e = .returned (.bool true) ∧ Below w.heap.size w w' := by
  by_cases h : less < 0 ∨ more < 0 ∨ 10000 < less ∨ 1000000 < more
  · exact less_bad now size less rate more w h
  · obtain ⟨a, b, c, hS⟩ : ∃ a b c, Pc.send 0 0 now size rate = (a, b, c) := ⟨_, _, _, rfl⟩
    by_cases hc : c = 0
    · subst hc
      rcases Pc.send_cases 0 0 now size rate with k | k | k
      · have g1 := (Pc.sizeB_iff size).1 k.2.2.2.1
        have g2 := (Pc.rateB_iff rate).1 k.2.2.2.2.1
        obtain ⟨x, y, z, hT⟩ : ∃ x y z, Pc.send 0 0 now (size - less) (rate + more) = (x, y, z) := ⟨_, _, _, rfl⟩
        refine less_good now size less rate more a b x y z w (by omega) (by omega) (by omega) (by omega) g1.1 g1.2 g2.1 g2.2 hS hT ?_
        intro hz
        subst hz
        have := Pc.less (now := now) (size := size) (d := less) (rate := rate) (m := more) (by omega) (by omega) (by rw [hS]) (by rw [hT])
        rw [hS, hT] at this
        exact this
      · rw [hS] at k; simp at k
      · rw [hS] at k; simp at k
    · exact less_err now size less rate more a b c w (by omega) (by omega) (by omega) (by omega) hS (by rw [bne_iff_ne]; exact hc)
end Go.Proofs.Ytgfcoahlmbjjoaa
