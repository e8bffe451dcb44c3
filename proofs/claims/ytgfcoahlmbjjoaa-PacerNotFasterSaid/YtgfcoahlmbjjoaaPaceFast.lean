/- The statement on packets that are sent some time after the pacer is ready: it returns true, whatever the input, and leaves what was in memory alone. -/
import Derived.Test.YtgfcoahlmbjjoaaPaceSizes
import Derived.Deep.RegionHeld
namespace Go.Proofs.Ytgfcoahlmbjjoaa
open Go.RowKit

set_option maxHeartbeats 4000000 in
set_option maxRecDepth 100000 in
theorem fast_valid (n r rate : Int) (a : Option Addr) (len cap : Nat) (b : Option Addr) (blen bcap : Nat) (w : World) (hV : Pc.validB n r = false) : Calls Try.prog 5 #[.agg #[.int .i64 n, .int .i64 r], .int .i64 rate, .slice a len cap, .slice b blen bcap] w fun e w' => e = .returned (.bool true) ∧ Below w.heap.size w w' := by
  have HV := Lib.hid hV
  clear hV
  go_enter Try.func5, Try.ntmps5
  go_wp2_with fail
  refine (head_ok _).mono ?_
  rintro e w1 ⟨rfl, hb_w1⟩
  have hB_w1 : Below w.heap.size w w1 := below_on (by (repeat (first | exact Below.refl _ _ | refine below_drawn ?_ | refine below_drawnN ?_ _ | refine below_new ?_ _))) hb_w1
  have hz_w1 := hb_w1.size
  try simp only [World.size_setCell] at hz_w1
  try simp only [World.size_drew] at hz_w1
  try simp only [World.size_drewN] at hz_w1
  try simp only [World.size_alloc] at hz_w1
  try simp only [World.size_setCell] at hz_w1
  try simp only [World.size_drew] at hz_w1
  try simp only [World.size_drewN] at hz_w1
  try simp only [World.size_alloc] at hz_w1
  have hl0_w1 : w.heap.size < w1.heap.size := by omega
  have c0_w1 : w1.cell? ⟨w.heap.size, 0, none⟩ = some (.int .i64 n) := below_cell_of hb_w1 (by first | (go_simp; done))
  have fzc0_w1 : w1.frozen? ⟨w.heap.size, 0, none⟩ = false := below_frozen_of hb_w1 (by first | omega | (simp; done) | (simp; omega)) (by first | (go_simp; done))
  have c1_w1 : w1.cell? ⟨w.heap.size, 1, none⟩ = some (.int .i64 r) := below_cell_of hb_w1 (by first | (go_simp; done))
  have fzc1_w1 : w1.frozen? ⟨w.heap.size, 1, none⟩ = false := below_frozen_of hb_w1 (by first | omega | (simp; done) | (simp; omega)) (by first | (go_simp; done))
  go_wp2_with fail
  refine (rvalid_any n r _).mono ?_
  rw [HV.out]
  rintro e w2 ⟨rfl, hb_w2⟩
  have hB_w2 : Below w.heap.size w w2 := below_on (by first | ((repeat (first | exact Below.refl _ _ | refine below_drawn ?_ | refine below_drawnN ?_ _ | refine below_new ?_ _)); done) | (refine below_on hB_w1 ?_; (repeat (first | exact Below.refl _ _ | refine below_drawn ?_ | refine below_drawnN ?_ _ | refine below_new ?_ _)))) hb_w2
  have hz_w2 := hb_w2.size
  try simp only [World.size_setCell] at hz_w2
  try simp only [World.size_drew] at hz_w2
  try simp only [World.size_drewN] at hz_w2
  try simp only [World.size_alloc] at hz_w2
  try simp only [World.size_setCell] at hz_w2
  try simp only [World.size_drew] at hz_w2
  try simp only [World.size_drewN] at hz_w2
  try simp only [World.size_alloc] at hz_w2
  have hl0_w2 : w.heap.size < w2.heap.size := by omega
  have c0_w2 : w2.cell? ⟨w.heap.size, 0, none⟩ = some (.int .i64 n) := below_cell_of hb_w2 (by first | (go_simp; done) | (refine below_cell_of (w := w1) ?_ (by first | assumption | (go_simp; done)); (repeat (first | exact Below.refl _ _ | refine below_drawn ?_ | refine below_drawnN ?_ _ | refine below_new ?_ _))))
  have fzc0_w2 : w2.frozen? ⟨w.heap.size, 0, none⟩ = false := below_frozen_of hb_w2 (by first | omega | (simp; done) | (simp; omega)) (by first | (go_simp; done) | (refine below_frozen_of (w := w1) ?_ (by omega) (by first | assumption | (go_simp; done)); (repeat (first | exact Below.refl _ _ | refine below_drawn ?_ | refine below_drawnN ?_ _ | refine below_new ?_ _))))
  have c1_w2 : w2.cell? ⟨w.heap.size, 1, none⟩ = some (.int .i64 r) := below_cell_of hb_w2 (by first | (go_simp; done) | (refine below_cell_of (w := w1) ?_ (by first | assumption | (go_simp; done)); (repeat (first | exact Below.refl _ _ | refine below_drawn ?_ | refine below_drawnN ?_ _ | refine below_new ?_ _))))
  have fzc1_w2 : w2.frozen? ⟨w.heap.size, 1, none⟩ = false := below_frozen_of hb_w2 (by first | omega | (simp; done) | (simp; omega)) (by first | (go_simp; done) | (refine below_frozen_of (w := w1) ?_ (by omega) (by first | assumption | (go_simp; done)); (repeat (first | exact Below.refl _ _ | refine below_drawn ?_ | refine below_drawnN ?_ _ | refine below_new ?_ _))))
  go_wp2
  go_ret
  exact ⟨rfl, hB_w2⟩
set_option maxHeartbeats 4000000 in
set_option maxRecDepth 100000 in
theorem fast_rate (n r rate : Int) (a : Option Addr) (len cap : Nat) (b : Option Addr) (blen bcap : Nat) (w : World) (hV : Pc.validB n r = true) (k : Pc.rateB rate = false) : Calls Try.prog 5 #[.agg #[.int .i64 n, .int .i64 r], .int .i64 rate, .slice a len cap, .slice b blen bcap] w fun e w' => e = .returned (.bool true) ∧ Below w.heap.size w w' := by
  have HV := Lib.hid hV
  have HR := Lib.hid k
  clear hV k
  go_enter Try.func5, Try.ntmps5
  go_wp2_with fail
  refine (head_ok _).mono ?_
  rintro e w1 ⟨rfl, hb_w1⟩
  have hB_w1 : Below w.heap.size w w1 := below_on (by (repeat (first | exact Below.refl _ _ | refine below_drawn ?_ | refine below_drawnN ?_ _ | refine below_new ?_ _))) hb_w1
  have hz_w1 := hb_w1.size
  try simp only [World.size_setCell] at hz_w1
  try simp only [World.size_drew] at hz_w1
  try simp only [World.size_drewN] at hz_w1
  try simp only [World.size_alloc] at hz_w1
  try simp only [World.size_setCell] at hz_w1
  try simp only [World.size_drew] at hz_w1
  try simp only [World.size_drewN] at hz_w1
  try simp only [World.size_alloc] at hz_w1
  have hl0_w1 : w.heap.size < w1.heap.size := by omega
  have c0_w1 : w1.cell? ⟨w.heap.size, 0, none⟩ = some (.int .i64 n) := below_cell_of hb_w1 (by first | (go_simp; done))
  have fzc0_w1 : w1.frozen? ⟨w.heap.size, 0, none⟩ = false := below_frozen_of hb_w1 (by first | omega | (simp; done) | (simp; omega)) (by first | (go_simp; done))
  have c1_w1 : w1.cell? ⟨w.heap.size, 1, none⟩ = some (.int .i64 r) := below_cell_of hb_w1 (by first | (go_simp; done))
  have fzc1_w1 : w1.frozen? ⟨w.heap.size, 1, none⟩ = false := below_frozen_of hb_w1 (by first | omega | (simp; done) | (simp; omega)) (by first | (go_simp; done))
  go_wp2_with fail
  refine (rvalid_any n r _).mono ?_
  rw [HV.out]
  rintro e w2 ⟨rfl, hb_w2⟩
  have hB_w2 : Below w.heap.size w w2 := below_on (by first | ((repeat (first | exact Below.refl _ _ | refine below_drawn ?_ | refine below_drawnN ?_ _ | refine below_new ?_ _)); done) | (refine below_on hB_w1 ?_; (repeat (first | exact Below.refl _ _ | refine below_drawn ?_ | refine below_drawnN ?_ _ | refine below_new ?_ _)))) hb_w2
  have hz_w2 := hb_w2.size
  try simp only [World.size_setCell] at hz_w2
  try simp only [World.size_drew] at hz_w2
  try simp only [World.size_drewN] at hz_w2
  try simp only [World.size_alloc] at hz_w2
  try simp only [World.size_setCell] at hz_w2
  try simp only [World.size_drew] at hz_w2
  try simp only [World.size_drewN] at hz_w2
  try simp only [World.size_alloc] at hz_w2
  have hl0_w2 : w.heap.size < w2.heap.size := by omega
  have c0_w2 : w2.cell? ⟨w.heap.size, 0, none⟩ = some (.int .i64 n) := below_cell_of hb_w2 (by first | (go_simp; done) | (refine below_cell_of (w := w1) ?_ (by first | assumption | (go_simp; done)); (repeat (first | exact Below.refl _ _ | refine below_drawn ?_ | refine below_drawnN ?_ _ | refine below_new ?_ _))))
  have fzc0_w2 : w2.frozen? ⟨w.heap.size, 0, none⟩ = false := below_frozen_of hb_w2 (by first | omega | (simp; done) | (simp; omega)) (by first | (go_simp; done) | (refine below_frozen_of (w := w1) ?_ (by omega) (by first | assumption | (go_simp; done)); (repeat (first | exact Below.refl _ _ | refine below_drawn ?_ | refine below_drawnN ?_ _ | refine below_new ?_ _))))
  have c1_w2 : w2.cell? ⟨w.heap.size, 1, none⟩ = some (.int .i64 r) := below_cell_of hb_w2 (by first | (go_simp; done) | (refine below_cell_of (w := w1) ?_ (by first | assumption | (go_simp; done)); (repeat (first | exact Below.refl _ _ | refine below_drawn ?_ | refine below_drawnN ?_ _ | refine below_new ?_ _))))
  have fzc1_w2 : w2.frozen? ⟨w.heap.size, 1, none⟩ = false := below_frozen_of hb_w2 (by first | omega | (simp; done) | (simp; omega)) (by first | (go_simp; done) | (refine below_frozen_of (w := w1) ?_ (by omega) (by first | assumption | (go_simp; done)); (repeat (first | exact Below.refl _ _ | refine below_drawn ?_ | refine below_drawnN ?_ _ | refine below_new ?_ _))))
  go_wp2_with fail
  refine (rrate_any rate _).mono ?_
  rw [HR.out]
  rintro e w3 ⟨rfl, rfl⟩
  go_wp2
  go_ret
  exact ⟨rfl, hB_w2⟩
set_option maxHeartbeats 4000000 in
set_option maxRecDepth 100000 in
theorem fast_long (n r rate : Int) (a : Option Addr) (len cap : Nat) (b : Option Addr) (blen bcap : Nat) (w : World) (hV : Pc.validB n r = true) (k : Pc.rateB rate = true) (hl : 60 < len) : Calls Try.prog 5 #[.agg #[.int .i64 n, .int .i64 r], .int .i64 rate, .slice a len cap, .slice b blen bcap] w fun e w' => e = .returned (.bool true) ∧ Below w.heap.size w w' := by
  have HV := Lib.hid hV
  have HR := Lib.hid k
  clear hV k
  go_enter Try.func5, Try.ntmps5
  go_wp2_with fail
  refine (head_ok _).mono ?_
  rintro e w1 ⟨rfl, hb_w1⟩
  have hB_w1 : Below w.heap.size w w1 := below_on (by (repeat (first | exact Below.refl _ _ | refine below_drawn ?_ | refine below_drawnN ?_ _ | refine below_new ?_ _))) hb_w1
  have hz_w1 := hb_w1.size
  try simp only [World.size_setCell] at hz_w1
  try simp only [World.size_drew] at hz_w1
  try simp only [World.size_drewN] at hz_w1
  try simp only [World.size_alloc] at hz_w1
  try simp only [World.size_setCell] at hz_w1
  try simp only [World.size_drew] at hz_w1
  try simp only [World.size_drewN] at hz_w1
  try simp only [World.size_alloc] at hz_w1
  have hl0_w1 : w.heap.size < w1.heap.size := by omega
  have c0_w1 : w1.cell? ⟨w.heap.size, 0, none⟩ = some (.int .i64 n) := below_cell_of hb_w1 (by first | (go_simp; done))
  have fzc0_w1 : w1.frozen? ⟨w.heap.size, 0, none⟩ = false := below_frozen_of hb_w1 (by first | omega | (simp; done) | (simp; omega)) (by first | (go_simp; done))
  have c1_w1 : w1.cell? ⟨w.heap.size, 1, none⟩ = some (.int .i64 r) := below_cell_of hb_w1 (by first | (go_simp; done))
  have fzc1_w1 : w1.frozen? ⟨w.heap.size, 1, none⟩ = false := below_frozen_of hb_w1 (by first | omega | (simp; done) | (simp; omega)) (by first | (go_simp; done))
  go_wp2_with fail
  refine (rvalid_any n r _).mono ?_
  rw [HV.out]
  rintro e w2 ⟨rfl, hb_w2⟩
  have hB_w2 : Below w.heap.size w w2 := below_on (by first | ((repeat (first | exact Below.refl _ _ | refine below_drawn ?_ | refine below_drawnN ?_ _ | refine below_new ?_ _)); done) | (refine below_on hB_w1 ?_; (repeat (first | exact Below.refl _ _ | refine below_drawn ?_ | refine below_drawnN ?_ _ | refine below_new ?_ _)))) hb_w2
  have hz_w2 := hb_w2.size
  try simp only [World.size_setCell] at hz_w2
  try simp only [World.size_drew] at hz_w2
  try simp only [World.size_drewN] at hz_w2
  try simp only [World.size_alloc] at hz_w2
  try simp only [World.size_setCell] at hz_w2
  try simp only [World.size_drew] at hz_w2
  try simp only [World.size_drewN] at hz_w2
  try simp only [World.size_alloc] at hz_w2
  have hl0_w2 : w.heap.size < w2.heap.size := by omega
  have c0_w2 : w2.cell? ⟨w.heap.size, 0, none⟩ = some (.int .i64 n) := below_cell_of hb_w2 (by first | (go_simp; done) | (refine below_cell_of (w := w1) ?_ (by first | assumption | (go_simp; done)); (repeat (first | exact Below.refl _ _ | refine below_drawn ?_ | refine below_drawnN ?_ _ | refine below_new ?_ _))))
  have fzc0_w2 : w2.frozen? ⟨w.heap.size, 0, none⟩ = false := below_frozen_of hb_w2 (by first | omega | (simp; done) | (simp; omega)) (by first | (go_simp; done) | (refine below_frozen_of (w := w1) ?_ (by omega) (by first | assumption | (go_simp; done)); (repeat (first | exact Below.refl _ _ | refine below_drawn ?_ | refine below_drawnN ?_ _ | refine below_new ?_ _))))
  have c1_w2 : w2.cell? ⟨w.heap.size, 1, none⟩ = some (.int .i64 r) := below_cell_of hb_w2 (by first | (go_simp; done) | (refine below_cell_of (w := w1) ?_ (by first | assumption | (go_simp; done)); (repeat (first | exact Below.refl _ _ | refine below_drawn ?_ | refine below_drawnN ?_ _ | refine below_new ?_ _))))
  have fzc1_w2 : w2.frozen? ⟨w.heap.size, 1, none⟩ = false := below_frozen_of hb_w2 (by first | omega | (simp; done) | (simp; omega)) (by first | (go_simp; done) | (refine below_frozen_of (w := w1) ?_ (by omega) (by first | assumption | (go_simp; done)); (repeat (first | exact Below.refl _ _ | refine below_drawn ?_ | refine below_drawnN ?_ _ | refine below_new ?_ _))))
  go_wp2_with fail
  refine (rrate_any rate _).mono ?_
  rw [HR.out]
  rintro e w3 ⟨rfl, rfl⟩
  go_wp2
  go_ret
  exact ⟨rfl, hB_w2⟩
set_option maxHeartbeats 4000000 in
set_option maxRecDepth 100000 in
theorem fast_few (n r rate : Int) (a : Option Addr) (len cap : Nat) (b : Option Addr) (blen bcap : Nat) (w : World) (hV : Pc.validB n r = true) (k : Pc.rateB rate = true) (hl : len ≤ 60) (hb : blen < len) : Calls Try.prog 5 #[.agg #[.int .i64 n, .int .i64 r], .int .i64 rate, .slice a len cap, .slice b blen bcap] w fun e w' => e = .returned (.bool true) ∧ Below w.heap.size w w' := by
  have HV := Lib.hid hV
  have HR := Lib.hid k
  clear hV k
  go_enter Try.func5, Try.ntmps5
  go_wp2_with fail
  refine (head_ok _).mono ?_
  rintro e w1 ⟨rfl, hb_w1⟩
  have hB_w1 : Below w.heap.size w w1 := below_on (by (repeat (first | exact Below.refl _ _ | refine below_drawn ?_ | refine below_drawnN ?_ _ | refine below_new ?_ _))) hb_w1
  have hz_w1 := hb_w1.size
  try simp only [World.size_setCell] at hz_w1
  try simp only [World.size_drew] at hz_w1
  try simp only [World.size_drewN] at hz_w1
  try simp only [World.size_alloc] at hz_w1
  try simp only [World.size_setCell] at hz_w1
  try simp only [World.size_drew] at hz_w1
  try simp only [World.size_drewN] at hz_w1
  try simp only [World.size_alloc] at hz_w1
  have hl0_w1 : w.heap.size < w1.heap.size := by omega
  have c0_w1 : w1.cell? ⟨w.heap.size, 0, none⟩ = some (.int .i64 n) := below_cell_of hb_w1 (by first | (go_simp; done))
  have fzc0_w1 : w1.frozen? ⟨w.heap.size, 0, none⟩ = false := below_frozen_of hb_w1 (by first | omega | (simp; done) | (simp; omega)) (by first | (go_simp; done))
  have c1_w1 : w1.cell? ⟨w.heap.size, 1, none⟩ = some (.int .i64 r) := below_cell_of hb_w1 (by first | (go_simp; done))
  have fzc1_w1 : w1.frozen? ⟨w.heap.size, 1, none⟩ = false := below_frozen_of hb_w1 (by first | omega | (simp; done) | (simp; omega)) (by first | (go_simp; done))
  go_wp2_with fail
  refine (rvalid_any n r _).mono ?_
  rw [HV.out]
  rintro e w2 ⟨rfl, hb_w2⟩
  have hB_w2 : Below w.heap.size w w2 := below_on (by first | ((repeat (first | exact Below.refl _ _ | refine below_drawn ?_ | refine below_drawnN ?_ _ | refine below_new ?_ _)); done) | (refine below_on hB_w1 ?_; (repeat (first | exact Below.refl _ _ | refine below_drawn ?_ | refine below_drawnN ?_ _ | refine below_new ?_ _)))) hb_w2
  have hz_w2 := hb_w2.size
  try simp only [World.size_setCell] at hz_w2
  try simp only [World.size_drew] at hz_w2
  try simp only [World.size_drewN] at hz_w2
  try simp only [World.size_alloc] at hz_w2
  try simp only [World.size_setCell] at hz_w2
  try simp only [World.size_drew] at hz_w2
  try simp only [World.size_drewN] at hz_w2
  try simp only [World.size_alloc] at hz_w2
  have hl0_w2 : w.heap.size < w2.heap.size := by omega
  have c0_w2 : w2.cell? ⟨w.heap.size, 0, none⟩ = some (.int .i64 n) := below_cell_of hb_w2 (by first | (go_simp; done) | (refine below_cell_of (w := w1) ?_ (by first | assumption | (go_simp; done)); (repeat (first | exact Below.refl _ _ | refine below_drawn ?_ | refine below_drawnN ?_ _ | refine below_new ?_ _))))
  have fzc0_w2 : w2.frozen? ⟨w.heap.size, 0, none⟩ = false := below_frozen_of hb_w2 (by first | omega | (simp; done) | (simp; omega)) (by first | (go_simp; done) | (refine below_frozen_of (w := w1) ?_ (by omega) (by first | assumption | (go_simp; done)); (repeat (first | exact Below.refl _ _ | refine below_drawn ?_ | refine below_drawnN ?_ _ | refine below_new ?_ _))))
  have c1_w2 : w2.cell? ⟨w.heap.size, 1, none⟩ = some (.int .i64 r) := below_cell_of hb_w2 (by first | (go_simp; done) | (refine below_cell_of (w := w1) ?_ (by first | assumption | (go_simp; done)); (repeat (first | exact Below.refl _ _ | refine below_drawn ?_ | refine below_drawnN ?_ _ | refine below_new ?_ _))))
  have fzc1_w2 : w2.frozen? ⟨w.heap.size, 1, none⟩ = false := below_frozen_of hb_w2 (by first | omega | (simp; done) | (simp; omega)) (by first | (go_simp; done) | (refine below_frozen_of (w := w1) ?_ (by omega) (by first | assumption | (go_simp; done)); (repeat (first | exact Below.refl _ _ | refine below_drawn ?_ | refine below_drawnN ?_ _ | refine below_new ?_ _))))
  go_wp2_with fail
  refine (rrate_any rate _).mono ?_
  rw [HR.out]
  rintro e w3 ⟨rfl, rfl⟩
  go_wp2
  go_ret
  exact ⟨rfl, hB_w2⟩
set_option maxHeartbeats 4000000 in
set_option maxRecDepth 100000 in
theorem fast_rest (n r rate : Int) (a : Option Addr) (len cap : Nat) (b : Option Addr) (blen bcap : Nat) (w : World) (hV : Pc.validB n r = true) (k : Pc.rateB rate = true) (hl : len ≤ 60) (hb : len ≤ blen) (hr : rate ≤ r) : Calls Try.prog 5 #[.agg #[.int .i64 n, .int .i64 r], .int .i64 rate, .slice a len cap, .slice b blen bcap] w fun e w' => e = .returned (.bool true) ∧ Below w.heap.size w w' := by
  have hrr : ¬ r < rate := by omega
  have HV := Lib.hid hV
  have HR := Lib.hid k
  clear hV k
  go_enter Try.func5, Try.ntmps5
  go_wp2_with fail
  refine (head_ok _).mono ?_
  rintro e w1 ⟨rfl, hb_w1⟩
  have hB_w1 : Below w.heap.size w w1 := below_on (by (repeat (first | exact Below.refl _ _ | refine below_drawn ?_ | refine below_drawnN ?_ _ | refine below_new ?_ _))) hb_w1
  have hz_w1 := hb_w1.size
  try simp only [World.size_setCell] at hz_w1
  try simp only [World.size_drew] at hz_w1
  try simp only [World.size_drewN] at hz_w1
  try simp only [World.size_alloc] at hz_w1
  try simp only [World.size_setCell] at hz_w1
  try simp only [World.size_drew] at hz_w1
  try simp only [World.size_drewN] at hz_w1
  try simp only [World.size_alloc] at hz_w1
  have hl0_w1 : w.heap.size < w1.heap.size := by omega
  have c0_w1 : w1.cell? ⟨w.heap.size, 0, none⟩ = some (.int .i64 n) := below_cell_of hb_w1 (by first | (go_simp; done))
  have fzc0_w1 : w1.frozen? ⟨w.heap.size, 0, none⟩ = false := below_frozen_of hb_w1 (by first | omega | (simp; done) | (simp; omega)) (by first | (go_simp; done))
  have c1_w1 : w1.cell? ⟨w.heap.size, 1, none⟩ = some (.int .i64 r) := below_cell_of hb_w1 (by first | (go_simp; done))
  have fzc1_w1 : w1.frozen? ⟨w.heap.size, 1, none⟩ = false := below_frozen_of hb_w1 (by first | omega | (simp; done) | (simp; omega)) (by first | (go_simp; done))
  go_wp2_with fail
  refine (rvalid_any n r _).mono ?_
  rw [HV.out]
  rintro e w2 ⟨rfl, hb_w2⟩
  have hB_w2 : Below w.heap.size w w2 := below_on (by first | ((repeat (first | exact Below.refl _ _ | refine below_drawn ?_ | refine below_drawnN ?_ _ | refine below_new ?_ _)); done) | (refine below_on hB_w1 ?_; (repeat (first | exact Below.refl _ _ | refine below_drawn ?_ | refine below_drawnN ?_ _ | refine below_new ?_ _)))) hb_w2
  have hz_w2 := hb_w2.size
  try simp only [World.size_setCell] at hz_w2
  try simp only [World.size_drew] at hz_w2
  try simp only [World.size_drewN] at hz_w2
  try simp only [World.size_alloc] at hz_w2
  try simp only [World.size_setCell] at hz_w2
  try simp only [World.size_drew] at hz_w2
  try simp only [World.size_drewN] at hz_w2
  try simp only [World.size_alloc] at hz_w2
  have hl0_w2 : w.heap.size < w2.heap.size := by omega
  have c0_w2 : w2.cell? ⟨w.heap.size, 0, none⟩ = some (.int .i64 n) := below_cell_of hb_w2 (by first | (go_simp; done) | (refine below_cell_of (w := w1) ?_ (by first | assumption | (go_simp; done)); (repeat (first | exact Below.refl _ _ | refine below_drawn ?_ | refine below_drawnN ?_ _ | refine below_new ?_ _))))
  have fzc0_w2 : w2.frozen? ⟨w.heap.size, 0, none⟩ = false := below_frozen_of hb_w2 (by first | omega | (simp; done) | (simp; omega)) (by first | (go_simp; done) | (refine below_frozen_of (w := w1) ?_ (by omega) (by first | assumption | (go_simp; done)); (repeat (first | exact Below.refl _ _ | refine below_drawn ?_ | refine below_drawnN ?_ _ | refine below_new ?_ _))))
  have c1_w2 : w2.cell? ⟨w.heap.size, 1, none⟩ = some (.int .i64 r) := below_cell_of hb_w2 (by first | (go_simp; done) | (refine below_cell_of (w := w1) ?_ (by first | assumption | (go_simp; done)); (repeat (first | exact Below.refl _ _ | refine below_drawn ?_ | refine below_drawnN ?_ _ | refine below_new ?_ _))))
  have fzc1_w2 : w2.frozen? ⟨w.heap.size, 1, none⟩ = false := below_frozen_of hb_w2 (by first | omega | (simp; done) | (simp; omega)) (by first | (go_simp; done) | (refine below_frozen_of (w := w1) ?_ (by omega) (by first | assumption | (go_simp; done)); (repeat (first | exact Below.refl _ _ | refine below_drawn ?_ | refine below_drawnN ?_ _ | refine below_new ?_ _))))
  go_wp2_with fail
  refine (rrate_any rate _).mono ?_
  rw [HR.out]
  rintro e w3 ⟨rfl, rfl⟩
  go_wp2
  go_ret
  exact ⟨rfl, hB_w2⟩
set_option maxHeartbeats 4000000 in
set_option maxRecDepth 100000 in
theorem fast_walk (n r rate : Int) (a : Option Addr) (len cap : Nat) (b : Option Addr) (blen bcap : Nat) (w : World) (zs ws : List Int) (hV : Pc.validB n r = true) (k : Pc.rateB rate = true) (hl : len ≤ 60) (hb : len ≤ blen) (hrr : r < rate) (hz : RdI w .u16 a len zs) (hbd : ∀ z, z ∈ zs → 0 ≤ z ∧ z ≤ 65535) (hw : RdI w .u8 b blen ws) (hwd : ∀ z, z ∈ ws → 0 ≤ z ∧ z ≤ 255) : Calls Try.prog 5 #[.agg #[.int .i64 n, .int .i64 r], .int .i64 rate, .slice a len cap, .slice b blen bcap] w fun e w' => e = .returned (.bool true) ∧ Below w.heap.size w w' := by
  obtain ⟨hr0, hr1⟩ := (Pc.rateB_iff rate).1 k
  obtain ⟨i0, hi, hz0, hz1, hz2⟩ := info_parts info_int
  have hrb : ¬ r ≥ rate := by omega
  have HZ := Lib.hid hz
  have HW := Lib.hid hw
  have HBD := Lib.hid hbd
  have HWD := Lib.hid hwd
  have HL := Lib.hid hz.1
  have HV := Lib.hid hV
  have HR := Lib.hid k
  clear hV k
  clear hz hw hbd hwd
  go_enter Try.func5, Try.ntmps5
  go_wp2_with fail
  refine (head_ok _).mono ?_
  rintro e w1 ⟨rfl, hb_w1⟩
  have hB_w1 : Below w.heap.size w w1 := below_on (by (repeat (first | exact Below.refl _ _ | refine below_drawn ?_ | refine below_drawnN ?_ _ | refine below_new ?_ _))) hb_w1
  have hz_w1 := hb_w1.size
  try simp only [World.size_setCell] at hz_w1
  try simp only [World.size_drew] at hz_w1
  try simp only [World.size_drewN] at hz_w1
  try simp only [World.size_alloc] at hz_w1
  try simp only [World.size_setCell] at hz_w1
  try simp only [World.size_drew] at hz_w1
  try simp only [World.size_drewN] at hz_w1
  try simp only [World.size_alloc] at hz_w1
  have hl0_w1 : w.heap.size < w1.heap.size := by omega
  have c0_w1 : w1.cell? ⟨w.heap.size, 0, none⟩ = some (.int .i64 n) := below_cell_of hb_w1 (by first | (go_simp; done))
  have fzc0_w1 : w1.frozen? ⟨w.heap.size, 0, none⟩ = false := below_frozen_of hb_w1 (by first | omega | (simp; done) | (simp; omega)) (by first | (go_simp; done))
  have c1_w1 : w1.cell? ⟨w.heap.size, 1, none⟩ = some (.int .i64 r) := below_cell_of hb_w1 (by first | (go_simp; done))
  have fzc1_w1 : w1.frozen? ⟨w.heap.size, 1, none⟩ = false := below_frozen_of hb_w1 (by first | omega | (simp; done) | (simp; omega)) (by first | (go_simp; done))
  go_wp2_with fail
  refine (rvalid_any n r _).mono ?_
  rw [HV.out]
  rintro e w2 ⟨rfl, hb_w2⟩
  have hB_w2 : Below w.heap.size w w2 := below_on (by first | ((repeat (first | exact Below.refl _ _ | refine below_drawn ?_ | refine below_drawnN ?_ _ | refine below_new ?_ _)); done) | (refine below_on hB_w1 ?_; (repeat (first | exact Below.refl _ _ | refine below_drawn ?_ | refine below_drawnN ?_ _ | refine below_new ?_ _)))) hb_w2
  have hz_w2 := hb_w2.size
  try simp only [World.size_setCell] at hz_w2
  try simp only [World.size_drew] at hz_w2
  try simp only [World.size_drewN] at hz_w2
  try simp only [World.size_alloc] at hz_w2
  try simp only [World.size_setCell] at hz_w2
  try simp only [World.size_drew] at hz_w2
  try simp only [World.size_drewN] at hz_w2
  try simp only [World.size_alloc] at hz_w2
  have hl0_w2 : w.heap.size < w2.heap.size := by omega
  have c0_w2 : w2.cell? ⟨w.heap.size, 0, none⟩ = some (.int .i64 n) := below_cell_of hb_w2 (by first | (go_simp; done) | (refine below_cell_of (w := w1) ?_ (by first | assumption | (go_simp; done)); (repeat (first | exact Below.refl _ _ | refine below_drawn ?_ | refine below_drawnN ?_ _ | refine below_new ?_ _))))
  have fzc0_w2 : w2.frozen? ⟨w.heap.size, 0, none⟩ = false := below_frozen_of hb_w2 (by first | omega | (simp; done) | (simp; omega)) (by first | (go_simp; done) | (refine below_frozen_of (w := w1) ?_ (by omega) (by first | assumption | (go_simp; done)); (repeat (first | exact Below.refl _ _ | refine below_drawn ?_ | refine below_drawnN ?_ _ | refine below_new ?_ _))))
  have c1_w2 : w2.cell? ⟨w.heap.size, 1, none⟩ = some (.int .i64 r) := below_cell_of hb_w2 (by first | (go_simp; done) | (refine below_cell_of (w := w1) ?_ (by first | assumption | (go_simp; done)); (repeat (first | exact Below.refl _ _ | refine below_drawn ?_ | refine below_drawnN ?_ _ | refine below_new ?_ _))))
  have fzc1_w2 : w2.frozen? ⟨w.heap.size, 1, none⟩ = false := below_frozen_of hb_w2 (by first | omega | (simp; done) | (simp; omega)) (by first | (go_simp; done) | (refine below_frozen_of (w := w1) ?_ (by omega) (by first | assumption | (go_simp; done)); (repeat (first | exact Below.refl _ _ | refine below_drawn ?_ | refine below_drawnN ?_ _ | refine below_new ?_ _))))
  go_wp2_with fail
  refine (rrate_any rate _).mono ?_
  rw [HR.out]
  rintro e w3 ⟨rfl, rfl⟩
  go_wp2_with fail
  refine (sizes_any a len cap zs _ (by omega) (HZ.out.below hB_w2) HBD.out).mono ?_
  rintro e w3 ⟨⟨A, c, rfl, hrd, hat⟩, hb_w3⟩
  have hB_w3 : Below w.heap.size w w3 := below_on (by first | ((repeat (first | exact Below.refl _ _ | refine below_drawn ?_ | refine below_drawnN ?_ _ | refine below_new ?_ _)); done) | (refine below_on hB_w2 ?_; (repeat (first | exact Below.refl _ _ | refine below_drawn ?_ | refine below_drawnN ?_ _ | refine below_new ?_ _)))) hb_w3
  have hz_w3 := hb_w3.size
  try simp only [World.size_setCell] at hz_w3
  try simp only [World.size_drew] at hz_w3
  try simp only [World.size_drewN] at hz_w3
  try simp only [World.size_alloc] at hz_w3
  try simp only [World.size_setCell] at hz_w3
  try simp only [World.size_drew] at hz_w3
  try simp only [World.size_drewN] at hz_w3
  try simp only [World.size_alloc] at hz_w3
  have hl0_w3 : w.heap.size < w3.heap.size := by omega
  have c0_w3 : w3.cell? ⟨w.heap.size, 0, none⟩ = some (.int .i64 n) := below_cell_of hb_w3 (by first | (go_simp; done) | (refine below_cell_of (w := w2) ?_ (by first | assumption | (go_simp; done)); (repeat (first | exact Below.refl _ _ | refine below_drawn ?_ | refine below_drawnN ?_ _ | refine below_new ?_ _))))
  have fzc0_w3 : w3.frozen? ⟨w.heap.size, 0, none⟩ = false := below_frozen_of hb_w3 (by first | omega | (simp; done) | (simp; omega)) (by first | (go_simp; done) | (refine below_frozen_of (w := w2) ?_ (by omega) (by first | assumption | (go_simp; done)); (repeat (first | exact Below.refl _ _ | refine below_drawn ?_ | refine below_drawnN ?_ _ | refine below_new ?_ _))))
  have c1_w3 : w3.cell? ⟨w.heap.size, 1, none⟩ = some (.int .i64 r) := below_cell_of hb_w3 (by first | (go_simp; done) | (refine below_cell_of (w := w2) ?_ (by first | assumption | (go_simp; done)); (repeat (first | exact Below.refl _ _ | refine below_drawn ?_ | refine below_drawnN ?_ _ | refine below_new ?_ _))))
  have fzc1_w3 : w3.frozen? ⟨w.heap.size, 1, none⟩ = false := below_frozen_of hb_w3 (by first | omega | (simp; done) | (simp; omega)) (by first | (go_simp; done) | (refine below_frozen_of (w := w2) ?_ (by omega) (by first | assumption | (go_simp; done)); (repeat (first | exact Below.refl _ _ | refine below_drawn ?_ | refine below_drawnN ?_ _ | refine below_new ?_ _))))
  have HRD := Lib.hid hrd
  have HAT := Lib.hid hat
  clear hrd hat
  go_wp2
  go_loopw [12, 13] (fun tv i wr => ∃ (k : Nat) (N T : Int) (ts : List Int), k ≤ len ∧ i = .int .i64 k ∧ wr.ownsRow w3.heap.size 3 1 tv k (ts.map (Value.int .i64)) ∧ ts.length = k ∧
      wr.cell? ⟨w.heap.size, 0, none⟩ = some (.int .i64 N) ∧ wr.cell? ⟨w.heap.size, 1, none⟩ = some (.int .i64 T) ∧ wr.frozen? ⟨w.heap.size, 0, none⟩ = false ∧ wr.frozen? ⟨w.heap.size, 1, none⟩ = false ∧
      w3.heap.size ≤ wr.heap.size ∧ Below w.heap.size w wr ∧ RdI wr .i64 A len (zs.map szOf) ∧ Pc.validB N T = true ∧ T < rate ∧ (∀ t, t ∈ ts → 0 ≤ t ∧ t ≤ 20000000) ∧
      ∀ j, j < k → rate * ts.getD j 0 + (sumTo zs k - sumTo zs j) ≤ rate * N + T) (fun _ i _ => len - (intOf i).toNat)
  case atStart => exact ⟨0, n, r, [], Nat.zero_le _, rfl, World.ownsRow_nil _ _ _ _, rfl, c0_w3, c1_w3, fzc0_w3, fzc1_w3, Nat.le_refl _, hB_w3, HRD.out, HV.out, by omega, (fun t h => by cases h), fun j h => absurd h (Nat.not_lt_zero j)⟩
  case round =>
    obtain ⟨k, N, T, ts, hk, rfl, hown, hts, p0, p1, f0, f1, hsz, hB, hrl, hv, hT, htb, hpot⟩ := hrel
    have HB := Lib.hid hB
    have HRL := Lib.hid hrl
    have HOWN := Lib.hid hown
    have HTS := Lib.hid hts
    have HTB := Lib.hid htb
    have HPOT := Lib.hid hpot
    have hlw : w.heap.size < wr.heap.size := by omega
    obtain ⟨hN0, hN1, hT0, _⟩ := (Pc.validB_iff N T).1 hv
    have HVV := Lib.hid hv
    clear hB hrl hown hts htb hpot hv
    by_cases hlt : k < len
    · obtain ⟨ad, rfl, l0⟩ := HRL.out.2 k hlt
      obtain ⟨bd, hbe, m0⟩ := (HW.out.below HB.out).2 k (by omega)
      subst hbe
      have hmd := HWD.out _ (HW.out.mem (i := k) (by omega))
      have hkb : k < blen := by omega
      have hss := szOf_bd (zs.getD k 0)
      have hsu := sumTo_succ zs k (by have := HL.out; omega)
      have hgd : (zs.map szOf).getD k 0 = szOf (zs.getD k 0) := by
        have := HL.out
        rw [List.getD_eq_getElem?_getD, List.getD_eq_getElem?_getD, List.getElem?_map, List.getElem?_eq_getElem (by omega)]
        rfl
      rw [hgd] at l0
      have hab : w.heap.size < ad.block := by have := HAT.out ad rfl; omega
      have hal : ad.block < w3.heap.size := by
        obtain ⟨ad', e', hc'⟩ := HRD.out.2 k hlt
        have hx := World.block_lt_of_cell? _ _ hc'
        have e2 : ad' = ad := by injection e' with e'; exact e'.symm
        subst e2
        have e3 : (ad'.add k).block = ad'.block := by unfold Addr.add; split <;> rfl
        rw [e3] at hx
        exact hx
      generalize szOf (zs.getD k 0) = s at hss hsu l0 hgd
      generalize ws.getD k 0 = wt at hmd m0
      obtain ⟨hs0, hs1⟩ := hss
      obtain ⟨hm0, hm1⟩ := hmd
      have hwa : IntKind.i64.wrap wt = wt := IntWalk.i64_in _ ⟨by omega, by omega⟩
      have hwb : IntKind.i64.wrap (N + wt) = N + wt := IntWalk.i64_in _ ⟨by omega, by omega⟩
      have WA := Lib.hid hwa
      have WB := Lib.hid hwb
      clear hwa hwb
      have HSU := Lib.hid hsu
      clear hsu hgd
      go_wp2
      refine wp_region_held_drew (S := (fun W => W.cell? ⟨w.heap.size, 0, none⟩ = some (.int .i64 N) ∧ W.cell? (bd.add k) = some (.int .u8 wt) ∧ Below wr.heap.size wr W)) (by kernel_rfl) ?_ (fun hHeld => ?_)
      · refine ⟨below_cell_of (w := wr) ?_ p0, below_cell_of (w := wr) ?_ m0, ?_⟩ <;> (repeat (first | assumption | exact Below.refl _ _ | refine below_set ?_ (by first | omega | (simp; done) | (simp; omega)) _ | refine below_drawn ?_ | refine below_drawnN ?_ _ | refine below_new ?_ _))
      refine wpAnyH_take (i := 0) (v := ?_) rfl (by kernel_rfl) (by kernel_rfl) (by kernel_rfl) (fun _ _ _ h => h) (Or.inl ⟨by rfl, ?_⟩) hHeld ?_
      rotate_left
      · intro wS hSw; obtain ⟨hS0, hS1, hS2⟩ := hSw; go_simp; (try simp only [WA.out]); (try simp only [WB.out]); try with_reducible rfl
      try go_simp
      refine wpAnyH_take (i := 1) (v := ?_) rfl (by kernel_rfl) (by kernel_rfl) (by kernel_rfl) (fun _ _ _ h => h) (Or.inl ⟨by rfl, ?_⟩) hHeld ?_
      rotate_left
      · intro wS hSw; obtain ⟨hS0, hS1, hS2⟩ := hSw; go_simp; (try simp only [WA.out]); (try simp only [WB.out]); try with_reducible rfl
      try go_simp
      refine wpAnyH_take (i := 2) (v := ?_) rfl (by kernel_rfl) (by kernel_rfl) (by kernel_rfl) (fun _ _ _ h => h) (Or.inl ⟨by rfl, ?_⟩) hHeld ?_
      rotate_left
      · intro wS hSw; obtain ⟨hS0, hS1, hS2⟩ := hSw; go_simp; (try simp only [WA.out]); (try simp only [WB.out]); try with_reducible rfl
      try go_simp
      refine wpAnyH_take (i := 3) (v := ?_) rfl (by kernel_rfl) (by kernel_rfl) (by kernel_rfl) (fun _ _ _ h => h) (Or.inl ⟨by rfl, ?_⟩) hHeld ?_
      rotate_left
      · intro wS hSw; obtain ⟨hS0, hS1, hS2⟩ := hSw; go_simp; (try simp only [WA.out]); (try simp only [WB.out]); try with_reducible rfl
      try go_simp
      refine wpAnyH_take (i := 4) (v := ?_) rfl (by kernel_rfl) (by kernel_rfl) (by kernel_rfl) (fun _ _ _ h => h) (Or.inl ⟨by rfl, ?_⟩) hHeld ?_
      rotate_left
      · intro wS hSw; obtain ⟨hS0, hS1, hS2⟩ := hSw; go_simp; (try simp only [WA.out]); (try simp only [WB.out]); try with_reducible rfl
      try go_simp
      refine wpAnyH_take (i := 5) (v := ?_) rfl (by kernel_rfl) (by kernel_rfl) (by kernel_rfl) (fun _ _ _ h => h) (Or.inl ⟨by rfl, ?_⟩) hHeld ?_
      rotate_left
      · intro wS hSw; obtain ⟨hS0, hS1, hS2⟩ := hSw; go_simp; (try simp only [WA.out]); (try simp only [WB.out]); try with_reducible rfl
      try go_simp
      refine wpAnyH_take (i := 6) (v := ?_) rfl (by kernel_rfl) (by kernel_rfl) (by kernel_rfl) (fun _ _ _ h => h) (Or.inl ⟨by rfl, ?_⟩) hHeld ?_
      rotate_left
      · intro wS hSw; obtain ⟨hS0, hS1, hS2⟩ := hSw; go_simp; (try simp only [WA.out]); (try simp only [WB.out]); try with_reducible rfl
      try go_simp
      refine wpAnyH_take (i := 7) (v := ?_) rfl (by kernel_rfl) (by kernel_rfl) (by kernel_rfl) (fun _ _ _ h => h) (Or.inl ⟨by rfl, ?_⟩) hHeld ?_
      rotate_left
      · intro wS hSw; obtain ⟨hS0, hS1, hS2⟩ := hSw; go_simp; (try simp only [WA.out]); (try simp only [WB.out]); try with_reducible rfl
      try go_simp
      refine wpAnyH_take (i := 8) (v := ?_) rfl (by kernel_rfl) (by kernel_rfl) (by kernel_rfl) (fun _ _ _ h => h) (Or.inl ⟨by rfl, ?_⟩) hHeld ?_
      rotate_left
      · intro wS hSw; obtain ⟨hS0, hS1, hS2⟩ := hSw; go_simp; (try simp only [WA.out]); (try simp only [WB.out]); try with_reducible rfl
      try go_simp
      refine wpAnyH_done (by kernel_rfl) ?_ _
      by_cases hfar : 20000000 < N + wt
      · go_wp2
        go_ret
        exact ⟨rfl, below_drawn HB.out⟩
      · obtain ⟨q, u, hst, hvq, huq, hqn, hp1, hp2⟩ := Pc.fast_step (n := N) (r := T) (now := N + wt) (s := s) (rate := rate) HVV.out ⟨hr0, hr1⟩ ⟨hs0, hs1⟩ hT (by omega) (by omega)
        obtain ⟨hq0, hq1, hu0, _⟩ := (Pc.validB_iff q u).1 hvq
        have HST := Lib.hid hst
        have HVQ := Lib.hid hvq
        have HP1 := Lib.hid hp1
        have HP2 := Lib.hid hp2
        clear hst hvq hp1 hp2
        go_wp2
        refine wp_region_held_drew (S := (fun W => W.cell? ⟨w.heap.size, 0, none⟩ = some (.int .i64 N) ∧ W.cell? ⟨w.heap.size, 1, none⟩ = some (.int .i64 T) ∧ W.cell? (ad.add k) = some (.int .i64 s) ∧ Below wr.heap.size wr W)) (by kernel_rfl) ?_ (fun hHeld => ?_)
        · refine ⟨below_cell_of (w := wr) ?_ p0, below_cell_of (w := wr) ?_ p1, below_cell_of (w := wr) ?_ l0, ?_⟩ <;> (repeat (first | assumption | exact Below.refl _ _ | refine below_set ?_ (by first | omega | (simp; done) | (simp; omega)) _ | refine below_drawn ?_ | refine below_drawnN ?_ _ | refine below_new ?_ _))
        refine wpAnyH_take (i := 0) (v := ?_) rfl (by kernel_rfl) (by kernel_rfl) (by kernel_rfl) (fun _ _ _ h => h) (Or.inl ⟨by rfl, ?_⟩) hHeld ?_
        rotate_left
        · intro wS hSw; obtain ⟨hS0, hS1, hS2, hS3⟩ := hSw; go_simp; try with_reducible rfl
        try go_simp
        refine wpAnyH_take (i := 1) (v := ?_) rfl (by kernel_rfl) (by kernel_rfl) (by kernel_rfl) (fun _ _ _ h => h) (Or.inl ⟨by rfl, ?_⟩) hHeld ?_
        rotate_left
        · intro wS hSw; obtain ⟨hS0, hS1, hS2, hS3⟩ := hSw; go_simp; try with_reducible rfl
        try go_simp
        refine wpAnyH_take (i := 2) (v := ?_) rfl (by kernel_rfl) (by kernel_rfl) (by kernel_rfl) (fun _ _ _ h => h) (Or.inl ⟨by rfl, ?_⟩) hHeld ?_
        rotate_left
        · intro wS hSw; obtain ⟨hS0, hS1, hS2, hS3⟩ := hSw; go_simp; try with_reducible rfl
        try go_simp
        refine wpAnyH_take (i := 3) (v := ?_) rfl (by kernel_rfl) (by kernel_rfl) (by kernel_rfl) (fun _ _ _ h => h) (Or.inl ⟨by rfl, ?_⟩) hHeld ?_
        rotate_left
        · intro wS hSw; obtain ⟨hS0, hS1, hS2, hS3⟩ := hSw; go_simp; try with_reducible rfl
        try go_simp
        refine wpAnyH_take (i := 4) (v := ?_) rfl (by kernel_rfl) (by kernel_rfl) (by kernel_rfl) (fun _ _ _ h => h) (Or.inl ⟨by rfl, ?_⟩) hHeld ?_
        rotate_left
        · intro wS hSw; obtain ⟨hS0, hS1, hS2, hS3⟩ := hSw; go_simp; try with_reducible rfl
        try go_simp
        refine wpAnyH_take (i := 5) (v := ?_) rfl (by kernel_rfl) (by kernel_rfl) (by kernel_rfl) (fun _ _ _ h => h) (Or.inl ⟨by rfl, ?_⟩) hHeld ?_
        rotate_left
        · intro wS hSw; obtain ⟨hS0, hS1, hS2, hS3⟩ := hSw; go_simp; try with_reducible rfl
        try go_simp
        refine wpAnyH_take (i := 6) (v := ?_) rfl (by kernel_rfl) (by kernel_rfl) (by kernel_rfl) (fun _ _ _ h => h) (Or.inl ⟨by rfl, ?_⟩) hHeld ?_
        rotate_left
        · intro wS hSw; obtain ⟨hS0, hS1, hS2, hS3⟩ := hSw; go_simp; try with_reducible rfl
        try go_simp
        refine wpAnyH_ready (rs := [7, 11]) (by kernel_rfl) (by simp) ?_
        refine AllReadyH.cons rfl (fun K hK => ?_) (AllReadyH.cons rfl (fun K hK => ?_) AllReadyH.nil)
        · go_simp
          refine (send_any _ _ _ _ _ _).mono ?_
          rw [HST.out]
          rintro e x ⟨rfl, hb_x⟩
          have hB_x : Below wr.heap.size wr x := below_on (by (repeat (first | assumption | exact Below.refl _ _ | refine below_set ?_ (by first | omega | (simp; done) | (simp; omega)) _ | refine below_drawn ?_ | refine below_drawnN ?_ _ | refine below_new ?_ _))) hb_x
          have hzx := hb_x.size
          try simp only [World.size_drew] at hzx
          try simp only [World.size_alloc] at hzx
          try simp only [World.size_drew] at hzx
          have hlx : wr.heap.size ≤ x.heap.size := by omega
          refine hK.out _ _ ?_ (fun hHeld => ?_)
          · refine ⟨below_cell_of (w := wr) ?_ p0, below_cell_of (w := wr) ?_ p1, below_cell_of (w := wr) ?_ l0, ?_⟩ <;> (repeat (first | assumption | exact Below.refl _ _ | refine below_set ?_ (by first | omega | (simp; done) | (simp; omega)) _ | refine below_drawn ?_ | refine below_drawnN ?_ _ | refine below_new ?_ _))
          clear hK K
          try go_simp
          refine wpAnyH_take (i := 8) (v := ?_) rfl (by kernel_rfl) (by kernel_rfl) (by kernel_rfl) (fun _ _ _ h => h) (Or.inl ⟨by rfl, ?_⟩) hHeld ?_
          rotate_left
          · intro wS hSw; obtain ⟨hS0, hS1, hS2, hS3⟩ := hSw; go_simp; try with_reducible rfl
          try go_simp
          refine wpAnyH_take (i := 9) (v := ?_) rfl (by kernel_rfl) (by kernel_rfl) (by kernel_rfl) (fun _ _ _ h => h) (Or.inl ⟨by rfl, ?_⟩) hHeld ?_
          rotate_left
          · intro wS hSw; obtain ⟨hS0, hS1, hS2, hS3⟩ := hSw; go_simp; try with_reducible rfl
          try go_simp
          refine wpAnyH_take (i := 10) (v := ?_) rfl (by kernel_rfl) (by kernel_rfl) (by kernel_rfl) (fun _ _ _ h => h) (Or.inl ⟨by rfl, ?_⟩) hHeld ?_
          rotate_left
          · intro wS hSw; obtain ⟨hS0, hS1, hS2, hS3⟩ := hSw; go_simp; try with_reducible rfl
          try go_simp
          refine wpAnyH_ready (rs := [11]) (by kernel_rfl) (by simp) ?_
          refine AllReadyH.cons rfl (fun K hK => ?_) AllReadyH.nil
          go_simp
          refine hK.out _ _ ?_ (fun hHeld => ?_)
          · refine ⟨below_cell_of (w := wr) ?_ p0, below_cell_of (w := wr) ?_ p1, below_cell_of (w := wr) ?_ l0, ?_⟩ <;> (repeat (first | assumption | exact Below.refl _ _ | refine below_set ?_ (by first | omega | (simp; done) | (simp; omega)) _ | refine below_drawn ?_ | refine below_drawnN ?_ _ | refine below_new ?_ _))
          clear hK K
          try go_simp
          refine wpAnyH_ready (rs := [12]) (by kernel_rfl) (by simp) ?_
          refine AllReadyH.cons rfl (fun K hK => ?_) AllReadyH.nil
          go_simp
          refine hK.out _ _ ?_ (fun hHeld => ?_)
          · refine ⟨below_cell_of (w := wr) ?_ p0, below_cell_of (w := wr) ?_ p1, below_cell_of (w := wr) ?_ l0, ?_⟩ <;> (repeat (first | assumption | exact Below.refl _ _ | refine below_set ?_ (by first | omega | (simp; done) | (simp; omega)) _ | refine below_drawn ?_ | refine below_drawnN ?_ _ | refine below_new ?_ _))
          clear hK K
          try go_simp
          refine wpAnyH_take (i := 13) (v := ?_) rfl (by kernel_rfl) (by kernel_rfl) (by kernel_rfl) (fun _ _ _ h => h) (Or.inl ⟨by rfl, ?_⟩) hHeld ?_
          rotate_left
          · intro wS hSw; obtain ⟨hS0, hS1, hS2, hS3⟩ := hSw; go_simp; try with_reducible rfl
          try go_simp
          refine wpAnyH_done (by kernel_rfl) ?_ _
          obtain ⟨g0, g1, g2, hBW⟩ := hHeld
          go_wp2_with (at_builtin; refine wpList_append_own _ rfl _ _ 33 rfl w3.heap.size 3 i0 (.int .i64 0) 1 8 Try.underlying33 hi hz0 hz1 hz2 rfl (by decide) _ _ _ rfl ((own_below HOWN.out hBW).alloc _) _ 1 1 [.int .i64 (N + wt)] rfl rfl ?c1 ?c2 ?c3 ?c4 ?c5 ?_)
          case c1 =>
            intro j u hj
            match j, hj with
            | 0, hj => simp at hj; subst hj; (first | (simp [Addr.add]; done) | (unfold Addr.add; go_simp; done))
          case c2 => intro u hu; simp at hu; subst hu; rfl
          case c3 => unfold maxLen; omega
          case c4 => omega
          case c5 => simp; omega
          intro v' w5 hown' hgrow _
          have HO := Lib.hid hown'
          have HG := Lib.hid hgrow
          have hBV := below_new hBW (.cells #[.int .i64 (N + wt)] 3)
          have hV5 := hgrow.size
          have hVs := hBV.size
          have HLT := Lib.hid HOWN.out.lt
          have hs5 : w3.heap.size ≤ w5.heap.size := by omega
          have hl5 : w.heap.size < w5.heap.size := by omega
          have p0' := HG.out.cell (below_cell_of hBV p0) (fun e => by have := (HLT.out _ e.symm).1; simp only at this; omega)
          have p1' := HG.out.cell (below_cell_of hBV p1) (fun e => by have := (HLT.out _ e.symm).1; simp only at this; omega)
          have f0' := grown_frozen HG.out (by simp only; omega) (below_frozen_of hBV hlw f0) (fun e => by have := (HLT.out _ e.symm).1; simp only at this; omega)
          have f1' := grown_frozen HG.out (by simp only; omega) (below_frozen_of hBV hlw f1) (fun e => by have := (HLT.out _ e.symm).1; simp only at this; omega)
          have q0' : w5.cell? ⟨x.heap.size, 0, none⟩ = some (.int .i64 q) := HG.out.cell (by go_simp) (fun e => by have := (HLT.out _ e.symm).2; simp only at this; omega)
          have q1' : w5.cell? ⟨x.heap.size, 1, none⟩ = some (.int .i64 u) := HG.out.cell (by go_simp) (fun e => by have := (HLT.out _ e.symm).2; simp only at this; omega)
          have HRL5 := Lib.hid ((HRL.out.below hBV).grown HG.out (fun ad' e e2 => by injection e with e; subst e; have := (HLT.out _ e2.symm).1; omega))
          have HB5 := Lib.hid ((below_on HB.out hBV).grown HG.out (by omega) (fun j hj => by have := (HLT.out j hj).1; omega))
          clear hown' hgrow hBV hV5 hVs g0 g1 g2 hBW
          obtain ⟨A', c', rfl⟩ := own_slice HO.out
          have hab' : ∀ ad', A' = some ad' → ad'.block ≠ w.heap.size := fun ad' e => by have := own_base' HO.out _ (by rw [e]; rfl); omega
          have HAB := Lib.hid hab'
          have HO6 := Lib.hid (ownsRow_setCell_below (ownsRow_setCell_below HO.out (a := ⟨w.heap.size, 0, none⟩) (by simp only; omega) (.int .i64 q)) (a := ⟨w.heap.size, 1, none⟩) (by simp only; omega) (.int .i64 u))
          have HTR6 := Lib.hid (RdI.of_own (zs := ts ++ [N + wt]) (by simpa using HO6.out))
          have HRL6 := Lib.hid ((HRL5.out.set (p := ⟨w.heap.size, 0, none⟩) (.int .i64 q) (fun ad' e => by injection e with e; subst e; simp only; omega)).set (p := ⟨w.heap.size, 1, none⟩) (.int .i64 u) (fun ad' e => by injection e with e; subst e; simp only; omega))
          go_wp2
          go_loopw [17, 18] (fun bv jv wv => ∃ (j : Nat) (bb : Int), j ≤ k ∧ jv = .int .i64 ((j : Int) - 1) ∧ bv = .int .i64 bb ∧ 0 ≤ bb ∧ 1000 * bb = sumTo zs k - sumTo zs j ∧ wv = (w5.setCell ⟨w.heap.size, 0, none⟩ (.int .i64 q)).setCell ⟨w.heap.size, 1, none⟩ (.int .i64 u)) (fun _ jv _ => (intOf jv + 1).toNat)
          case atStart => exact ⟨k, 0, Nat.le_refl _, by go_num, rfl, by omega, by omega, rfl⟩
          case round =>
            obtain ⟨j, bb, hj, rfl, rfl, hb0, hbb, rfl⟩ := hrel
            rcases Nat.eq_zero_or_pos j with hj0 | hj0
            · subst hj0
              go_wp2
              go_roundw
              case rel =>
                refine ⟨k + 1, q, u, ts ++ [N + wt], by omega, by go_num, by simpa using HO6.out, by simp [HTS.out], by go_simp, by go_simp, by go_simp, by go_simp, by simp; omega, below_set (below_set HB5.out (Nat.le_refl _) _) (Nat.le_refl _) _, HRL6.out, HVQ.out, huq, ?_, ?_⟩
                · intro t ht
                  rcases List.mem_append.1 ht with ht | ht
                  · exact HTB.out t ht
                  · simp at ht; subst ht; omega
                · intro j hj
                  have h1 := HP1.out
                  have h2 := HP2.out
                  have h3 := HSU.out
                  have h4 := HTS.out
                  by_cases hjk : j < k
                  · have h5 := HPOT.out j hjk
                    rw [List.getD_eq_getElem?_getD, List.getElem?_append_left (by omega), ← List.getD_eq_getElem?_getD]
                    omega
                  · obtain rfl : j = k := by omega
                    rw [List.getD_eq_getElem?_getD, List.getElem?_append_right (by omega), h4, Nat.sub_self]
                    simp only [List.getElem?_cons_zero, Option.getD_some]
                    omega
              case measure => simp [intOf]; omega
            · obtain ⟨i, rfl⟩ : ∃ i, j = i + 1 := ⟨j - 1, by omega⟩
              have hji : (((i + 1 : Nat) : Int)) - 1 = i := by omega
              obtain ⟨ld, hle, l1⟩ := HRL6.out.2 i (by omega)
              obtain ⟨td, hte, t1⟩ := HTR6.out.2 i (by omega)
              injection hle with hle
              subst hle
              subst hte
              have h4 := HTS.out
              have hgd1 : (zs.map szOf).getD i 0 = szOf (zs.getD i 0) := by
                have := HL.out
                rw [List.getD_eq_getElem?_getD, List.getD_eq_getElem?_getD, List.getElem?_map, List.getElem?_eq_getElem (by omega)]
                rfl
              have hgd2 : (ts ++ [N + wt]).getD i 0 = ts.getD i 0 := by
                rw [List.getD_eq_getElem?_getD, List.getElem?_append_left (by omega), ← List.getD_eq_getElem?_getD]
              have htm : ts.getD i 0 ∈ ts := by
                rw [List.getD_eq_getElem?_getD, List.getElem?_eq_getElem (by omega)]
                exact List.getElem_mem _
              have htbd := HTB.out _ htm
              have hpo := HPOT.out i (by omega)
              have hs1 := szOf_bd (zs.getD i 0)
              have hsu1 := sumTo_succ zs i (by have := HL.out; omega)
              rw [hgd1] at l1
              rw [hgd2] at t1
              have hsk := sumTo_bd zs k
              have hsi := sumTo_bd zs i
              generalize szOf (zs.getD i 0) = sz at *
              generalize ts.getD i 0 = tt at *
              generalize sumTo zs (i + 1) = S1 at *
              generalize hS0e : sumTo zs i = S0 at *
              generalize sumTo zs k = SK at *
              have hpr : rate * (N + wt - tt + 1) = rate * N + rate * wt - rate * tt + rate := by rw [Int.mul_add, Int.mul_sub, Int.mul_add, Int.mul_one]
              have hpw : 0 ≤ rate * wt := Int.mul_nonneg (by omega) (by omega)
              have hpx : rate * (N + wt - tt + 1) ≤ rate * 20000001 := Int.mul_le_mul_of_nonneg_left (by omega) (by omega)
              have hle1 : 1000 * (bb + sz) ≤ rate * (N + wt - tt + 1) := by omega
              have hle2 : 0 ≤ 1000 * (bb + sz) := by omega
              have hle3 : rate * (N + wt - tt + 1) ≤ 20000001000000 := by omega
              have hbb1 : 1000 * (bb + sz) = SK - S0 := by omega
              rw [hji]
              clear hpr hpw hpx hpo hbb hsu1 hgd1 hgd2 htm
              go_wp2
              go_roundw
              case rel => exact ⟨i, bb + sz, by omega, by go_num, rfl, by omega, by rw [hS0e]; exact hbb1, trivial⟩
              case measure => simp [intOf]
          
        · go_simp
          refine hK.out _ _ ?_ (fun hHeld => ?_)
          · refine ⟨below_cell_of (w := wr) ?_ p0, below_cell_of (w := wr) ?_ p1, below_cell_of (w := wr) ?_ l0, ?_⟩ <;> (repeat (first | assumption | exact Below.refl _ _ | refine below_set ?_ (by first | omega | (simp; done) | (simp; omega)) _ | refine below_drawn ?_ | refine below_drawnN ?_ _ | refine below_new ?_ _))
          clear hK K
          try go_simp
          refine wpAnyH_ready (rs := [7]) (by kernel_rfl) (by simp) ?_
          refine AllReadyH.cons rfl (fun K hK => ?_) AllReadyH.nil
          go_simp
          refine (send_any _ _ _ _ _ _).mono ?_
          rw [HST.out]
          rintro e x ⟨rfl, hb_x⟩
          have hB_x : Below wr.heap.size wr x := below_on (by (repeat (first | assumption | exact Below.refl _ _ | refine below_set ?_ (by first | omega | (simp; done) | (simp; omega)) _ | refine below_drawn ?_ | refine below_drawnN ?_ _ | refine below_new ?_ _))) hb_x
          have hzx := hb_x.size
          try simp only [World.size_drew] at hzx
          try simp only [World.size_alloc] at hzx
          try simp only [World.size_drew] at hzx
          have hlx : wr.heap.size ≤ x.heap.size := by omega
          have q0 : x.cell? ⟨wr.heap.size, 0, none⟩ = some (.int .i64 0) := below_cell_of hb_x (by go_simp)
          have q1 : x.cell? ⟨wr.heap.size, 1, none⟩ = some (.int .i64 0) := below_cell_of hb_x (by go_simp)
          have fq0 : x.frozen? ⟨wr.heap.size, 0, none⟩ = false := below_frozen_of hb_x (by simp) (by go_simp)
          have fq1 : x.frozen? ⟨wr.heap.size, 1, none⟩ = false := below_frozen_of hb_x (by simp) (by go_simp)
          have hlq : wr.heap.size < x.heap.size := by omega
          refine hK.out _ _ ?_ (fun hHeld => ?_)
          · refine ⟨below_cell_of (w := wr) ?_ p0, below_cell_of (w := wr) ?_ p1, below_cell_of (w := wr) ?_ l0, ?_⟩ <;> (repeat (first | assumption | exact Below.refl _ _ | refine below_set ?_ (by first | omega | (simp; done) | (simp; omega)) _ | refine below_drawn ?_ | refine below_drawnN ?_ _ | refine below_new ?_ _))
          clear hK K
          try go_simp
          refine wpAnyH_take (i := 8) (v := ?_) rfl (by kernel_rfl) (by kernel_rfl) (by kernel_rfl) (fun _ _ _ h => h) (Or.inl ⟨by rfl, ?_⟩) hHeld ?_
          rotate_left
          · intro wS hSw; obtain ⟨hS0, hS1, hS2, hS3⟩ := hSw; go_simp; try with_reducible rfl
          try go_simp
          refine wpAnyH_take (i := 9) (v := ?_) rfl (by kernel_rfl) (by kernel_rfl) (by kernel_rfl) (fun _ _ _ h => h) (Or.inl ⟨by rfl, ?_⟩) hHeld ?_
          rotate_left
          · intro wS hSw; obtain ⟨hS0, hS1, hS2, hS3⟩ := hSw; go_simp; try with_reducible rfl
          try go_simp
          refine wpAnyH_take (i := 10) (v := ?_) rfl (by kernel_rfl) (by kernel_rfl) (by kernel_rfl) (fun _ _ _ h => h) (Or.inl ⟨by rfl, ?_⟩) hHeld ?_
          rotate_left
          · intro wS hSw; obtain ⟨hS0, hS1, hS2, hS3⟩ := hSw; go_simp; try with_reducible rfl
          try go_simp
          refine wpAnyH_ready (rs := [12]) (by kernel_rfl) (by simp) ?_
          refine AllReadyH.cons rfl (fun K hK => ?_) AllReadyH.nil
          go_simp
          refine hK.out _ _ ?_ (fun hHeld => ?_)
          · refine ⟨below_cell_of (w := wr) ?_ p0, below_cell_of (w := wr) ?_ p1, below_cell_of (w := wr) ?_ l0, ?_⟩ <;> (repeat (first | assumption | exact Below.refl _ _ | refine below_set ?_ (by first | omega | (simp; done) | (simp; omega)) _ | refine below_drawn ?_ | refine below_drawnN ?_ _ | refine below_new ?_ _))
          clear hK K
          try go_simp
          refine wpAnyH_take (i := 13) (v := ?_) rfl (by kernel_rfl) (by kernel_rfl) (by kernel_rfl) (fun _ _ _ h => h) (Or.inl ⟨by rfl, ?_⟩) hHeld ?_
          rotate_left
          · intro wS hSw; obtain ⟨hS0, hS1, hS2, hS3⟩ := hSw; go_simp; try with_reducible rfl
          try go_simp
          refine wpAnyH_done (by kernel_rfl) ?_ _
          obtain ⟨g0, g1, g2, hBW⟩ := hHeld
          go_wp2_with (at_builtin; refine wpList_append_own _ rfl _ _ 33 rfl w3.heap.size 3 i0 (.int .i64 0) 1 8 Try.underlying33 hi hz0 hz1 hz2 rfl (by decide) _ _ _ rfl ((own_below HOWN.out hBW).alloc _) _ 1 1 [.int .i64 (N + wt)] rfl rfl ?c1 ?c2 ?c3 ?c4 ?c5 ?_)
          case c1 =>
            intro j u hj
            match j, hj with
            | 0, hj => simp at hj; subst hj; (first | (simp [Addr.add]; done) | (unfold Addr.add; go_simp; done))
          case c2 => intro u hu; simp at hu; subst hu; rfl
          case c3 => unfold maxLen; omega
          case c4 => omega
          case c5 => simp; omega
          intro v' w5 hown' hgrow _
          have HO := Lib.hid hown'
          have HG := Lib.hid hgrow
          have hBV := below_new hBW (.cells #[.int .i64 (N + wt)] 3)
          have hV5 := hgrow.size
          have hVs := hBV.size
          have HLT := Lib.hid HOWN.out.lt
          have hs5 : w3.heap.size ≤ w5.heap.size := by omega
          have hl5 : w.heap.size < w5.heap.size := by omega
          have p0' := HG.out.cell (below_cell_of hBV p0) (fun e => by have := (HLT.out _ e.symm).1; simp only at this; omega)
          have p1' := HG.out.cell (below_cell_of hBV p1) (fun e => by have := (HLT.out _ e.symm).1; simp only at this; omega)
          have f0' := grown_frozen HG.out (by simp only; omega) (below_frozen_of hBV hlw f0) (fun e => by have := (HLT.out _ e.symm).1; simp only at this; omega)
          have f1' := grown_frozen HG.out (by simp only; omega) (below_frozen_of hBV hlw f1) (fun e => by have := (HLT.out _ e.symm).1; simp only at this; omega)
          have q0' : w5.cell? ⟨wr.heap.size, 0, none⟩ = some (.int .i64 q) := HG.out.cell (by go_simp) (fun e => by have := (HLT.out _ e.symm).2; simp only at this; omega)
          have q1' : w5.cell? ⟨wr.heap.size, 1, none⟩ = some (.int .i64 u) := HG.out.cell (by go_simp) (fun e => by have := (HLT.out _ e.symm).2; simp only at this; omega)
          have HRL5 := Lib.hid ((HRL.out.below hBV).grown HG.out (fun ad' e e2 => by injection e with e; subst e; have := (HLT.out _ e2.symm).1; omega))
          have HB5 := Lib.hid ((below_on HB.out hBV).grown HG.out (by omega) (fun j hj => by have := (HLT.out j hj).1; omega))
          clear hown' hgrow hBV hV5 hVs g0 g1 g2 hBW
          obtain ⟨A', c', rfl⟩ := own_slice HO.out
          have hab' : ∀ ad', A' = some ad' → ad'.block ≠ w.heap.size := fun ad' e => by have := own_base' HO.out _ (by rw [e]; rfl); omega
          have HAB := Lib.hid hab'
          have HO6 := Lib.hid (ownsRow_setCell_below (ownsRow_setCell_below HO.out (a := ⟨w.heap.size, 0, none⟩) (by simp only; omega) (.int .i64 q)) (a := ⟨w.heap.size, 1, none⟩) (by simp only; omega) (.int .i64 u))
          have HTR6 := Lib.hid (RdI.of_own (zs := ts ++ [N + wt]) (by simpa using HO6.out))
          have HRL6 := Lib.hid ((HRL5.out.set (p := ⟨w.heap.size, 0, none⟩) (.int .i64 q) (fun ad' e => by injection e with e; subst e; simp only; omega)).set (p := ⟨w.heap.size, 1, none⟩) (.int .i64 u) (fun ad' e => by injection e with e; subst e; simp only; omega))
          go_wp2
          go_loopw [17, 18] (fun bv jv wv => ∃ (j : Nat) (bb : Int), j ≤ k ∧ jv = .int .i64 ((j : Int) - 1) ∧ bv = .int .i64 bb ∧ 0 ≤ bb ∧ 1000 * bb = sumTo zs k - sumTo zs j ∧ wv = (w5.setCell ⟨w.heap.size, 0, none⟩ (.int .i64 q)).setCell ⟨w.heap.size, 1, none⟩ (.int .i64 u)) (fun _ jv _ => (intOf jv + 1).toNat)
          case atStart => exact ⟨k, 0, Nat.le_refl _, by go_num, rfl, by omega, by omega, rfl⟩
          case round =>
            obtain ⟨j, bb, hj, rfl, rfl, hb0, hbb, rfl⟩ := hrel
            rcases Nat.eq_zero_or_pos j with hj0 | hj0
            · subst hj0
              go_wp2
              go_roundw
              case rel =>
                refine ⟨k + 1, q, u, ts ++ [N + wt], by omega, by go_num, by simpa using HO6.out, by simp [HTS.out], by go_simp, by go_simp, by go_simp, by go_simp, by simp; omega, below_set (below_set HB5.out (Nat.le_refl _) _) (Nat.le_refl _) _, HRL6.out, HVQ.out, huq, ?_, ?_⟩
                · intro t ht
                  rcases List.mem_append.1 ht with ht | ht
                  · exact HTB.out t ht
                  · simp at ht; subst ht; omega
                · intro j hj
                  have h1 := HP1.out
                  have h2 := HP2.out
                  have h3 := HSU.out
                  have h4 := HTS.out
                  by_cases hjk : j < k
                  · have h5 := HPOT.out j hjk
                    rw [List.getD_eq_getElem?_getD, List.getElem?_append_left (by omega), ← List.getD_eq_getElem?_getD]
                    omega
                  · obtain rfl : j = k := by omega
                    rw [List.getD_eq_getElem?_getD, List.getElem?_append_right (by omega), h4, Nat.sub_self]
                    simp only [List.getElem?_cons_zero, Option.getD_some]
                    omega
              case measure => simp [intOf]; omega
            · obtain ⟨i, rfl⟩ : ∃ i, j = i + 1 := ⟨j - 1, by omega⟩
              have hji : (((i + 1 : Nat) : Int)) - 1 = i := by omega
              obtain ⟨ld, hle, l1⟩ := HRL6.out.2 i (by omega)
              obtain ⟨td, hte, t1⟩ := HTR6.out.2 i (by omega)
              injection hle with hle
              subst hle
              subst hte
              have h4 := HTS.out
              have hgd1 : (zs.map szOf).getD i 0 = szOf (zs.getD i 0) := by
                have := HL.out
                rw [List.getD_eq_getElem?_getD, List.getD_eq_getElem?_getD, List.getElem?_map, List.getElem?_eq_getElem (by omega)]
                rfl
              have hgd2 : (ts ++ [N + wt]).getD i 0 = ts.getD i 0 := by
                rw [List.getD_eq_getElem?_getD, List.getElem?_append_left (by omega), ← List.getD_eq_getElem?_getD]
              have htm : ts.getD i 0 ∈ ts := by
                rw [List.getD_eq_getElem?_getD, List.getElem?_eq_getElem (by omega)]
                exact List.getElem_mem _
              have htbd := HTB.out _ htm
              have hpo := HPOT.out i (by omega)
              have hs1 := szOf_bd (zs.getD i 0)
              have hsu1 := sumTo_succ zs i (by have := HL.out; omega)
              rw [hgd1] at l1
              rw [hgd2] at t1
              have hsk := sumTo_bd zs k
              have hsi := sumTo_bd zs i
              generalize szOf (zs.getD i 0) = sz at *
              generalize ts.getD i 0 = tt at *
              generalize sumTo zs (i + 1) = S1 at *
              generalize hS0e : sumTo zs i = S0 at *
              generalize sumTo zs k = SK at *
              have hpr : rate * (N + wt - tt + 1) = rate * N + rate * wt - rate * tt + rate := by rw [Int.mul_add, Int.mul_sub, Int.mul_add, Int.mul_one]
              have hpw : 0 ≤ rate * wt := Int.mul_nonneg (by omega) (by omega)
              have hpx : rate * (N + wt - tt + 1) ≤ rate * 20000001 := Int.mul_le_mul_of_nonneg_left (by omega) (by omega)
              have hle1 : 1000 * (bb + sz) ≤ rate * (N + wt - tt + 1) := by omega
              have hle2 : 0 ≤ 1000 * (bb + sz) := by omega
              have hle3 : rate * (N + wt - tt + 1) ≤ 20000001000000 := by omega
              have hbb1 : 1000 * (bb + sz) = SK - S0 := by omega
              rw [hji]
              clear hpr hpw hpx hpo hbb hsu1 hgd1 hgd2 htm
              go_wp2
              go_roundw
              case rel => exact ⟨i, bb + sz, by omega, by go_num, rfl, by omega, by rw [hS0e]; exact hbb1, trivial⟩
              case measure => simp [intOf]
          
    · obtain rfl : k = len := by omega
      go_wp2
      go_ret
      exact ⟨rfl, HB.out⟩
theorem fast_entry (n r rate : Int) (a : Option Addr) (len cap : Nat) (zs : List Int) (b : Option Addr) (blen bcap : Nat) (ws : List Int) (w : World) (hz : RdI w .u16 a len zs) (hwf : ∀ z, z ∈ zs → (Lit.int .u16 z).wf = true) (hw : RdI w .u8 b blen ws) (hww : ∀ z, z ∈ ws → (Lit.int .u8 z).wf = true) : Calls Try.prog 5 #[.agg #[.int .i64 n, .int .i64 r], .int .i64 rate, .slice a len cap, .slice b blen bcap] w fun e w' => e = .returned (.bool true) ∧ Below w.heap.size w w' := by
  cases h : Pc.validB n r
  · exact fast_valid n r rate a len cap b blen bcap w h
  · cases k : Pc.rateB rate
    · exact fast_rate n r rate a len cap b blen bcap w h k
    · by_cases hl : 60 < len
      · exact fast_long n r rate a len cap b blen bcap w h k hl
      · by_cases hb : blen < len
        · exact fast_few n r rate a len cap b blen bcap w h k (by omega) hb
        · by_cases hr : r < rate
          · refine fast_walk n r rate a len cap b blen bcap w zs ws h k (by omega) (by omega) hr hz (fun z hz' => ?_) hw (fun z hz' => ?_)
            · have := hwf z hz'
              simp [Lit.wf, IntKind.min, IntKind.max, IntKind.signed, IntKind.bits] at this
              omega
            · have := hww z hz'
              simp [Lit.wf, IntKind.min, IntKind.max, IntKind.signed, IntKind.bits] at this
              omega
          · exact fast_rest n r rate a len cap b blen bcap w h k (by omega) (by omega) (by omega)
end Go.Proofs.Ytgfcoahlmbjjoaa
