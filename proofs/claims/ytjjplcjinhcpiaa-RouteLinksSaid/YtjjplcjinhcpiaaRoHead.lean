/- The examples at the head of the statements on package route: they are as the document says. -/
import Derived.Test.YtjjplcjinhcpiaaRoSmall
namespace Go.Proofs.Ytjjplcjinhcpiaa
open Go.RowKit

/-- The cells of a link that was not given more than its rate and delay. -/
def zeroRest : List Value := [.int .i64 0, .int .i64 0, .int .i64 0, .int .i64 0, .int .i64 0, .slice none 0 0, .int .i64 0, .int .i64 0, .int .i64 0, .int .i64 0, .int .i64 0, .int .i64 0, .int .i64 0, .int .i64 0, .int .u64 0, .bool false, .int .i64 0, .int .i64 0, .int .i64 0, .int .i64 0, .int .i64 0, .int .i64 0, .bool false, .bool false, .int .i64 0]
def zeroX (i : Nat) : Value := zeroRest.getD (i - 2) undef
theorem range_new (w : World) (pre cs post : List Value) (t : TypeId) : (w.alloc (.cells (pre ++ cs ++ post).toArray t)).rangeAt w.heap.size pre.length cs := by
  intro j v hv
  have hj : j < cs.length := by
    rcases Nat.lt_or_ge j cs.length with h | h
    · exact h
    · rw [List.getElem?_eq_none h] at hv; cases hv
  rw [World.cell?_alloc_new, List.getElem?_toArray, List.append_assoc, List.getElem?_append_right (by omega), List.getElem?_append_left (by omega)]
  rw [show pre.length + j - pre.length = j by omega]
  exact hv
theorem links_new (w : World) : RdK (w.alloc (.cells #[.int .i64 1000, .int .i64 500, .int .i64 0, .int .i64 0, .int .i64 0, .int .i64 0, .int .i64 0, .slice none 0 0, .int .i64 0, .int .i64 0, .int .i64 0, .int .i64 0, .int .i64 0, .int .i64 0, .int .i64 0, .int .i64 0, .int .u64 0, .bool false, .int .i64 0, .int .i64 0, .int .i64 0, .int .i64 0, .int .i64 0, .int .i64 0, .bool false, .bool false, .int .i64 0, .int .i64 3, .int .i64 0, .int .i64 0, .int .i64 0, .int .i64 0, .int .i64 0, .int .i64 0, .slice none 0 0, .int .i64 0, .int .i64 0, .int .i64 0, .int .i64 0, .int .i64 0, .int .i64 0, .int .i64 0, .int .i64 0, .int .u64 0, .bool false, .int .i64 0, .int .i64 0, .int .i64 0, .int .i64 0, .int .i64 0, .int .i64 0, .bool false, .bool false, .int .i64 0] 53)) (some ⟨w.heap.size, 0, none⟩) 2 [⟨1000, 500, zeroX⟩, ⟨3, 0, zeroX⟩] :=
  ⟨rfl, fun i hi => by
    match i, hi with
    | 0, _ => exact ⟨_, _, rfl, range_new w [] (linkList 1000 500 zeroX) (linkList 3 0 zeroX) _, by kernel_rfl⟩
    | 1, _ => exact ⟨_, _, rfl, range_new w (linkList 1000 500 zeroX) (linkList 3 0 zeroX) [] _, by kernel_rfl⟩⟩
theorem rdI_one {w : World} {B : Nat} {x : Int} (h0 : w.cell? ⟨B, 0, none⟩ = some (.int .i64 x)) : RdI w .i64 (some ⟨B, 0, none⟩) 1 [x] :=
  ⟨rfl, fun i hi => by
    obtain rfl : i = 0 := by omega
    exact ⟨_, rfl, h0⟩⟩
theorem rdI_two {w : World} {B : Nat} {x y : Int} (h0 : w.cell? ⟨B, 0, none⟩ = some (.int .i64 x)) (h1 : w.cell? ⟨B, 1, none⟩ = some (.int .i64 y)) : RdI w .i64 (some ⟨B, 0, none⟩) 2 [x, y] :=
  ⟨rfl, fun i hi => by
    match i, hi with
    | 0, _ => exact ⟨_, rfl, h0⟩
    | 1, _ => exact ⟨_, rfl, h1⟩⟩
theorem rdI_three {w : World} {B : Nat} {x y z : Int} (h0 : w.cell? ⟨B, 0, none⟩ = some (.int .i64 x)) (h1 : w.cell? ⟨B, 1, none⟩ = some (.int .i64 y)) (h2 : w.cell? ⟨B, 2, none⟩ = some (.int .i64 z)) : RdI w .i64 (some ⟨B, 0, none⟩) 3 [x, y, z] :=
  ⟨rfl, fun i hi => by
    match i, hi with
    | 0, _ => exact ⟨_, rfl, h0⟩
    | 1, _ => exact ⟨_, rfl, h1⟩
    | 2, _ => exact ⟨_, rfl, h2⟩⟩
theorem rdP_one {w : World} {B : Nat} {p : PathV} (h0 : w.cell? ⟨B, 0, none⟩ = some (.slice p.a p.len p.cap)) (h1 : w.cell? ⟨B, 1, none⟩ = some (.int .i64 p.back)) (h2 : w.cell? ⟨B, 2, none⟩ = some (.bool p.up)) (i0 : p.In w) : RdP w (some ⟨B, 0, none⟩) 1 [p] :=
  ⟨rfl, fun i hi => by
    match i, hi with
    | 0, _ => exact ⟨_, rfl, h0, h1, h2, i0⟩⟩
theorem rdP_two {w : World} {B : Nat} {p q : PathV} (h0 : w.cell? ⟨B, 0, none⟩ = some (.slice p.a p.len p.cap)) (h1 : w.cell? ⟨B, 1, none⟩ = some (.int .i64 p.back)) (h2 : w.cell? ⟨B, 2, none⟩ = some (.bool p.up)) (i0 : p.In w) (h3 : w.cell? ⟨B, 3, none⟩ = some (.slice q.a q.len q.cap)) (h4 : w.cell? ⟨B, 4, none⟩ = some (.int .i64 q.back)) (h5 : w.cell? ⟨B, 5, none⟩ = some (.bool q.up)) (i1 : q.In w) : RdP w (some ⟨B, 0, none⟩) 2 [p, q] :=
  ⟨rfl, fun i hi => by
    match i, hi with
    | 0, _ => exact ⟨_, rfl, h0, h1, h2, i0⟩
    | 1, _ => exact ⟨_, rfl, h3, h4, h5, i1⟩⟩
theorem rdP_three {w : World} {B : Nat} {p q r : PathV} (h0 : w.cell? ⟨B, 0, none⟩ = some (.slice p.a p.len p.cap)) (h1 : w.cell? ⟨B, 1, none⟩ = some (.int .i64 p.back)) (h2 : w.cell? ⟨B, 2, none⟩ = some (.bool p.up)) (i0 : p.In w) (h3 : w.cell? ⟨B, 3, none⟩ = some (.slice q.a q.len q.cap)) (h4 : w.cell? ⟨B, 4, none⟩ = some (.int .i64 q.back)) (h5 : w.cell? ⟨B, 5, none⟩ = some (.bool q.up)) (i1 : q.In w) (h6 : w.cell? ⟨B, 6, none⟩ = some (.slice r.a r.len r.cap)) (h7 : w.cell? ⟨B, 7, none⟩ = some (.int .i64 r.back)) (h8 : w.cell? ⟨B, 8, none⟩ = some (.bool r.up)) (i2 : r.In w) : RdP w (some ⟨B, 0, none⟩) 3 [p, q, r] :=
  ⟨rfl, fun i hi => by
    match i, hi with
    | 0, _ => exact ⟨_, rfl, h0, h1, h2, i0⟩
    | 1, _ => exact ⟨_, rfl, h3, h4, h5, i1⟩
    | 2, _ => exact ⟨_, rfl, h6, h7, h8, i2⟩⟩
theorem info_path : (Try.prog.info? 26).map (fun i => (i.zero, i.size, i.bytes)) = some (some (.agg #[.slice none 0 0, .int .i64 0, .bool false]), 3, 40) := by kernel_rfl
theorem make_paths (w : World) : ∃ o, (Instr.makeSlice 23 (.int .i64 17) (.int .i64 17)).run Try.prog w = .ok (.slice (some ⟨w.heap.size, 0, none⟩) 17 17) (w.alloc o) := by
  obtain ⟨i, hi, hz, h1, h2⟩ := info_parts info_path
  exact ⟨_, run_make w 23 26 i _ Try.underlying23 hi hz .i64 .i64 17 17 (by omega) (by omega) (by rw [h2]; omega) (by omega)⟩
theorem rdP_none (w : World) : RdP w none 0 [] := ⟨rfl, fun _ hi => absurd hi (Nat.not_lt_zero _)⟩
theorem nil_in (w : World) (b : Int) (u : Bool) : (PathV.mk none 0 0 [] b u).In w := ⟨⟨rfl, fun _ hi => absurd hi (Nat.not_lt_zero _)⟩, by show ((0 : Nat) : Int) ≤ 9223372036854775807; omega⟩
theorem check_long (many : Int) (a : Option Addr) (len cap : Nat) (w : World) (hi : Ro.inside many 0 8 = true) (hl : 16 < len) (hm : (len : Int) ≤ 9223372036854775807) :
    Calls Try.prog 16 #[.int .i64 many, .slice a len cap] w fun e w' => e = .returned (.int .i64 2) ∧ w' = w := by
  have HI := Lib.hid hi
  clear hi
  go_enter Try.func16, Try.ntmps16
  go_wp2_with fail
  refine (inside_any many 0 8 _).mono ?_
  rw [HI.out]
  rintro e w1 ⟨rfl, rfl⟩
  go_wp2
  go_ret
  exact ⟨rfl, rfl⟩
set_option maxHeartbeats 4000000 in
set_option maxRecDepth 100000 in
theorem head_ok (w : World) : Calls Try.prog 10 #[] w fun e w' => e = .returned (.bool true) ∧ Below w.heap.size w w' := by
  go_enter Try.func10, Try.ntmps10
  go_wp2_with fail
  refine (trip_any (some ⟨w.heap.size, 0, none⟩) 2 2 [⟨1000, 500, zeroX⟩, ⟨3, 0, zeroX⟩] (some ⟨w.heap.size + 1, 0, none⟩) 2 2 [0, 1] 40 false 10 _ ((links_new w).below (below_new (below_new (Below.refl _ _) _) _)) (rdI_two (by first | assumption | (go_simp; done) | (refine below_cell_of (w := w) ?_ (by first | assumption | (go_simp; done)); (repeat (first | assumption | exact Below.refl _ _ | refine below_set ?_ (by first | omega | (simp; done) | (simp; omega)) _ | refine below_drawn ?_ | refine below_drawnN ?_ _ | refine below_new ?_ _)))) (by first | assumption | (go_simp; done) | (refine below_cell_of (w := w) ?_ (by first | assumption | (go_simp; done)); (repeat (first | assumption | exact Below.refl _ _ | refine below_set ?_ (by first | omega | (simp; done) | (simp; omega)) _ | refine below_drawn ?_ | refine below_drawnN ?_ _ | refine below_new ?_ _))))) (by omega)).mono ?_
  rw [show Ro.trip (List.map LinkV.plain [⟨1000, 500, zeroX⟩, ⟨3, 0, zeroX⟩]) [0, 1] 40 10 = (3884, 0) from by decide +kernel]
  rintro e w1 ⟨rfl, hb_w1⟩
  have hB_w1 : Below w.heap.size w w1 := below_on (by (repeat (first | assumption | exact Below.refl _ _ | refine below_set ?_ (by first | omega | (simp; done) | (simp; omega)) _ | refine below_drawn ?_ | refine below_drawnN ?_ _ | refine below_new ?_ _))) hb_w1
  have hz_w1 := hb_w1.size
  try simp only [World.size_alloc] at hz_w1
  try simp only [World.size_alloc] at hz_w1
  have hl0_w1 : w.heap.size + 1 < w1.heap.size := by omega
  have hl1_w1 : w.heap.size + 1 + 1 < w1.heap.size := by omega
  have e0_w1 : w1.cell? ⟨w.heap.size + 1, 0, none⟩ = some (.int .i64 0) := below_cell_of hb_w1 (by first | (go_simp; done) | (refine below_cell_of (w := w) ?_ (by first | assumption | (go_simp; done)); (repeat (first | assumption | exact Below.refl _ _ | refine below_set ?_ (by first | omega | (simp; done) | (simp; omega)) _ | refine below_drawn ?_ | refine below_drawnN ?_ _ | refine below_new ?_ _))))
  have e1_w1 : w1.cell? ⟨w.heap.size + 1, 1, none⟩ = some (.int .i64 1) := below_cell_of hb_w1 (by first | (go_simp; done) | (refine below_cell_of (w := w) ?_ (by first | assumption | (go_simp; done)); (repeat (first | assumption | exact Below.refl _ _ | refine below_set ?_ (by first | omega | (simp; done) | (simp; omega)) _ | refine below_drawn ?_ | refine below_drawnN ?_ _ | refine below_new ?_ _))))
  have p0_w1 : w1.cell? ⟨w.heap.size + 1 + 1, 0, none⟩ = some (.slice (some ⟨w.heap.size + 1, 0, none⟩) 2 2) := below_cell_of hb_w1 (by first | (go_simp; done) | (refine below_cell_of (w := w) ?_ (by first | assumption | (go_simp; done)); (repeat (first | assumption | exact Below.refl _ _ | refine below_set ?_ (by first | omega | (simp; done) | (simp; omega)) _ | refine below_drawn ?_ | refine below_drawnN ?_ _ | refine below_new ?_ _))))
  have p1_w1 : w1.cell? ⟨w.heap.size + 1 + 1, 1, none⟩ = some (.int .i64 40) := below_cell_of hb_w1 (by first | (go_simp; done) | (refine below_cell_of (w := w) ?_ (by first | assumption | (go_simp; done)); (repeat (first | assumption | exact Below.refl _ _ | refine below_set ?_ (by first | omega | (simp; done) | (simp; omega)) _ | refine below_drawn ?_ | refine below_drawnN ?_ _ | refine below_new ?_ _))))
  have p2_w1 : w1.cell? ⟨w.heap.size + 1 + 1, 2, none⟩ = some (.bool false) := below_cell_of hb_w1 (by first | (go_simp; done) | (refine below_cell_of (w := w) ?_ (by first | assumption | (go_simp; done)); (repeat (first | assumption | exact Below.refl _ _ | refine below_set ?_ (by first | omega | (simp; done) | (simp; omega)) _ | refine below_drawn ?_ | refine below_drawnN ?_ _ | refine below_new ?_ _))))
  have HK := Lib.hid (((links_new w).below (below_new (below_new (Below.refl _ _) _) _)).below hb_w1)
  go_wp2_with fail
  refine (trip_any (some ⟨w.heap.size, 0, none⟩) 2 2 [⟨1000, 500, zeroX⟩, ⟨3, 0, zeroX⟩] (some ⟨w.heap.size + 1, 0, none⟩) 2 2 [0, 1] 40 false 0 _ HK.out (rdI_two (by first | assumption | (go_simp; done) | (refine below_cell_of (w := w1) ?_ (by first | assumption | (go_simp; done)); (repeat (first | assumption | exact Below.refl _ _ | refine below_set ?_ (by first | omega | (simp; done) | (simp; omega)) _ | refine below_drawn ?_ | refine below_drawnN ?_ _ | refine below_new ?_ _)))) (by first | assumption | (go_simp; done) | (refine below_cell_of (w := w1) ?_ (by first | assumption | (go_simp; done)); (repeat (first | assumption | exact Below.refl _ _ | refine below_set ?_ (by first | omega | (simp; done) | (simp; omega)) _ | refine below_drawn ?_ | refine below_drawnN ?_ _ | refine below_new ?_ _))))) (by omega)).mono ?_
  rw [show Ro.trip (List.map LinkV.plain [⟨1000, 500, zeroX⟩, ⟨3, 0, zeroX⟩]) [0, 1] 40 0 = (0, 1) from by decide +kernel]
  rintro e w2 ⟨rfl, hb_w2⟩
  have hB_w2 : Below w.heap.size w w2 := below_on (by first | ((repeat (first | assumption | exact Below.refl _ _ | refine below_set ?_ (by first | omega | (simp; done) | (simp; omega)) _ | refine below_drawn ?_ | refine below_drawnN ?_ _ | refine below_new ?_ _)); done) | (refine below_on hB_w1 ?_; (repeat (first | assumption | exact Below.refl _ _ | refine below_set ?_ (by first | omega | (simp; done) | (simp; omega)) _ | refine below_drawn ?_ | refine below_drawnN ?_ _ | refine below_new ?_ _)))) hb_w2
  have hz_w2 := hb_w2.size
  try simp only [World.size_setCell] at hz_w2
  try simp only [World.size_drew] at hz_w2
  try simp only [World.size_drewN] at hz_w2
  try simp only [World.size_alloc] at hz_w2
  try simp only [World.size_setCell] at hz_w2
  try simp only [World.size_drew] at hz_w2
  try simp only [World.size_drewN] at hz_w2
  try simp only [World.size_alloc] at hz_w2
  have hl0_w2 : w.heap.size + 1 < w2.heap.size := by omega
  have hl1_w2 : w.heap.size + 1 + 1 < w2.heap.size := by omega
  have e0_w2 : w2.cell? ⟨w.heap.size + 1, 0, none⟩ = some (.int .i64 0) := below_cell_of hb_w2 (by first | (go_simp; done) | (refine below_cell_of (w := w1) ?_ (by first | assumption | (go_simp; done)); (repeat (first | assumption | exact Below.refl _ _ | refine below_set ?_ (by first | omega | (simp; done) | (simp; omega)) _ | refine below_drawn ?_ | refine below_drawnN ?_ _ | refine below_new ?_ _))))
  have e1_w2 : w2.cell? ⟨w.heap.size + 1, 1, none⟩ = some (.int .i64 1) := below_cell_of hb_w2 (by first | (go_simp; done) | (refine below_cell_of (w := w1) ?_ (by first | assumption | (go_simp; done)); (repeat (first | assumption | exact Below.refl _ _ | refine below_set ?_ (by first | omega | (simp; done) | (simp; omega)) _ | refine below_drawn ?_ | refine below_drawnN ?_ _ | refine below_new ?_ _))))
  have p0_w2 : w2.cell? ⟨w.heap.size + 1 + 1, 0, none⟩ = some (.slice (some ⟨w.heap.size + 1, 0, none⟩) 2 2) := below_cell_of hb_w2 (by first | (go_simp; done) | (refine below_cell_of (w := w1) ?_ (by first | assumption | (go_simp; done)); (repeat (first | assumption | exact Below.refl _ _ | refine below_set ?_ (by first | omega | (simp; done) | (simp; omega)) _ | refine below_drawn ?_ | refine below_drawnN ?_ _ | refine below_new ?_ _))))
  have p1_w2 : w2.cell? ⟨w.heap.size + 1 + 1, 1, none⟩ = some (.int .i64 40) := below_cell_of hb_w2 (by first | (go_simp; done) | (refine below_cell_of (w := w1) ?_ (by first | assumption | (go_simp; done)); (repeat (first | assumption | exact Below.refl _ _ | refine below_set ?_ (by first | omega | (simp; done) | (simp; omega)) _ | refine below_drawn ?_ | refine below_drawnN ?_ _ | refine below_new ?_ _))))
  have p2_w2 : w2.cell? ⟨w.heap.size + 1 + 1, 2, none⟩ = some (.bool false) := below_cell_of hb_w2 (by first | (go_simp; done) | (refine below_cell_of (w := w1) ?_ (by first | assumption | (go_simp; done)); (repeat (first | assumption | exact Below.refl _ _ | refine below_set ?_ (by first | omega | (simp; done) | (simp; omega)) _ | refine below_drawn ?_ | refine below_drawnN ?_ _ | refine below_new ?_ _))))
  clear HK
  go_wp2_with fail
  refine (next_any (some ⟨w.heap.size + 1, 0, none⟩) 2 2 [0, 1] 40 false 1 _ (rdI_two (by first | assumption | (go_simp; done) | (refine below_cell_of (w := w2) ?_ (by first | assumption | (go_simp; done)); (repeat (first | assumption | exact Below.refl _ _ | refine below_set ?_ (by first | omega | (simp; done) | (simp; omega)) _ | refine below_drawn ?_ | refine below_drawnN ?_ _ | refine below_new ?_ _)))) (by first | assumption | (go_simp; done) | (refine below_cell_of (w := w2) ?_ (by first | assumption | (go_simp; done)); (repeat (first | assumption | exact Below.refl _ _ | refine below_set ?_ (by first | omega | (simp; done) | (simp; omega)) _ | refine below_drawn ?_ | refine below_drawnN ?_ _ | refine below_new ?_ _)))))  (by omega)).mono ?_
  rw [show Ro.next [0, 1] 1 = (1, true) from by decide +kernel]
  rintro e w3 ⟨rfl, hb_w3⟩
  have hB_w3 : Below w.heap.size w w3 := below_on (by first | ((repeat (first | assumption | exact Below.refl _ _ | refine below_set ?_ (by first | omega | (simp; done) | (simp; omega)) _ | refine below_drawn ?_ | refine below_drawnN ?_ _ | refine below_new ?_ _)); done) | (refine below_on hB_w2 ?_; (repeat (first | assumption | exact Below.refl _ _ | refine below_set ?_ (by first | omega | (simp; done) | (simp; omega)) _ | refine below_drawn ?_ | refine below_drawnN ?_ _ | refine below_new ?_ _)))) hb_w3
  have hz_w3 := hb_w3.size
  try simp only [World.size_setCell] at hz_w3
  try simp only [World.size_drew] at hz_w3
  try simp only [World.size_drewN] at hz_w3
  try simp only [World.size_alloc] at hz_w3
  try simp only [World.size_setCell] at hz_w3
  try simp only [World.size_drew] at hz_w3
  try simp only [World.size_drewN] at hz_w3
  try simp only [World.size_alloc] at hz_w3
  have hl0_w3 : w.heap.size + 1 < w3.heap.size := by omega
  have hl1_w3 : w.heap.size + 1 + 1 < w3.heap.size := by omega
  have e0_w3 : w3.cell? ⟨w.heap.size + 1, 0, none⟩ = some (.int .i64 0) := below_cell_of hb_w3 (by first | (go_simp; done) | (refine below_cell_of (w := w2) ?_ (by first | assumption | (go_simp; done)); (repeat (first | assumption | exact Below.refl _ _ | refine below_set ?_ (by first | omega | (simp; done) | (simp; omega)) _ | refine below_drawn ?_ | refine below_drawnN ?_ _ | refine below_new ?_ _))))
  have e1_w3 : w3.cell? ⟨w.heap.size + 1, 1, none⟩ = some (.int .i64 1) := below_cell_of hb_w3 (by first | (go_simp; done) | (refine below_cell_of (w := w2) ?_ (by first | assumption | (go_simp; done)); (repeat (first | assumption | exact Below.refl _ _ | refine below_set ?_ (by first | omega | (simp; done) | (simp; omega)) _ | refine below_drawn ?_ | refine below_drawnN ?_ _ | refine below_new ?_ _))))
  have p0_w3 : w3.cell? ⟨w.heap.size + 1 + 1, 0, none⟩ = some (.slice (some ⟨w.heap.size + 1, 0, none⟩) 2 2) := below_cell_of hb_w3 (by first | (go_simp; done) | (refine below_cell_of (w := w2) ?_ (by first | assumption | (go_simp; done)); (repeat (first | assumption | exact Below.refl _ _ | refine below_set ?_ (by first | omega | (simp; done) | (simp; omega)) _ | refine below_drawn ?_ | refine below_drawnN ?_ _ | refine below_new ?_ _))))
  have p1_w3 : w3.cell? ⟨w.heap.size + 1 + 1, 1, none⟩ = some (.int .i64 40) := below_cell_of hb_w3 (by first | (go_simp; done) | (refine below_cell_of (w := w2) ?_ (by first | assumption | (go_simp; done)); (repeat (first | assumption | exact Below.refl _ _ | refine below_set ?_ (by first | omega | (simp; done) | (simp; omega)) _ | refine below_drawn ?_ | refine below_drawnN ?_ _ | refine below_new ?_ _))))
  have p2_w3 : w3.cell? ⟨w.heap.size + 1 + 1, 2, none⟩ = some (.bool false) := below_cell_of hb_w3 (by first | (go_simp; done) | (refine below_cell_of (w := w2) ?_ (by first | assumption | (go_simp; done)); (repeat (first | assumption | exact Below.refl _ _ | refine below_set ?_ (by first | omega | (simp; done) | (simp; omega)) _ | refine below_drawn ?_ | refine below_drawnN ?_ _ | refine below_new ?_ _))))
  go_wp2_with fail
  refine (next_any (some ⟨w.heap.size + 1, 0, none⟩) 2 2 [0, 1] 40 false 2 _ (rdI_two (by first | assumption | (go_simp; done) | (refine below_cell_of (w := w3) ?_ (by first | assumption | (go_simp; done)); (repeat (first | assumption | exact Below.refl _ _ | refine below_set ?_ (by first | omega | (simp; done) | (simp; omega)) _ | refine below_drawn ?_ | refine below_drawnN ?_ _ | refine below_new ?_ _)))) (by first | assumption | (go_simp; done) | (refine below_cell_of (w := w3) ?_ (by first | assumption | (go_simp; done)); (repeat (first | assumption | exact Below.refl _ _ | refine below_set ?_ (by first | omega | (simp; done) | (simp; omega)) _ | refine below_drawn ?_ | refine below_drawnN ?_ _ | refine below_new ?_ _)))))  (by omega)).mono ?_
  rw [show Ro.next [0, 1] 2 = (0, false) from by decide +kernel]
  rintro e w4 ⟨rfl, hb_w4⟩
  have hB_w4 : Below w.heap.size w w4 := below_on (by first | ((repeat (first | assumption | exact Below.refl _ _ | refine below_set ?_ (by first | omega | (simp; done) | (simp; omega)) _ | refine below_drawn ?_ | refine below_drawnN ?_ _ | refine below_new ?_ _)); done) | (refine below_on hB_w3 ?_; (repeat (first | assumption | exact Below.refl _ _ | refine below_set ?_ (by first | omega | (simp; done) | (simp; omega)) _ | refine below_drawn ?_ | refine below_drawnN ?_ _ | refine below_new ?_ _)))) hb_w4
  have hz_w4 := hb_w4.size
  try simp only [World.size_setCell] at hz_w4
  try simp only [World.size_drew] at hz_w4
  try simp only [World.size_drewN] at hz_w4
  try simp only [World.size_alloc] at hz_w4
  try simp only [World.size_setCell] at hz_w4
  try simp only [World.size_drew] at hz_w4
  try simp only [World.size_drewN] at hz_w4
  try simp only [World.size_alloc] at hz_w4
  have hl0_w4 : w.heap.size + 1 < w4.heap.size := by omega
  have hl1_w4 : w.heap.size + 1 + 1 < w4.heap.size := by omega
  have e0_w4 : w4.cell? ⟨w.heap.size + 1, 0, none⟩ = some (.int .i64 0) := below_cell_of hb_w4 (by first | (go_simp; done) | (refine below_cell_of (w := w3) ?_ (by first | assumption | (go_simp; done)); (repeat (first | assumption | exact Below.refl _ _ | refine below_set ?_ (by first | omega | (simp; done) | (simp; omega)) _ | refine below_drawn ?_ | refine below_drawnN ?_ _ | refine below_new ?_ _))))
  have e1_w4 : w4.cell? ⟨w.heap.size + 1, 1, none⟩ = some (.int .i64 1) := below_cell_of hb_w4 (by first | (go_simp; done) | (refine below_cell_of (w := w3) ?_ (by first | assumption | (go_simp; done)); (repeat (first | assumption | exact Below.refl _ _ | refine below_set ?_ (by first | omega | (simp; done) | (simp; omega)) _ | refine below_drawn ?_ | refine below_drawnN ?_ _ | refine below_new ?_ _))))
  have p0_w4 : w4.cell? ⟨w.heap.size + 1 + 1, 0, none⟩ = some (.slice (some ⟨w.heap.size + 1, 0, none⟩) 2 2) := below_cell_of hb_w4 (by first | (go_simp; done) | (refine below_cell_of (w := w3) ?_ (by first | assumption | (go_simp; done)); (repeat (first | assumption | exact Below.refl _ _ | refine below_set ?_ (by first | omega | (simp; done) | (simp; omega)) _ | refine below_drawn ?_ | refine below_drawnN ?_ _ | refine below_new ?_ _))))
  have p1_w4 : w4.cell? ⟨w.heap.size + 1 + 1, 1, none⟩ = some (.int .i64 40) := below_cell_of hb_w4 (by first | (go_simp; done) | (refine below_cell_of (w := w3) ?_ (by first | assumption | (go_simp; done)); (repeat (first | assumption | exact Below.refl _ _ | refine below_set ?_ (by first | omega | (simp; done) | (simp; omega)) _ | refine below_drawn ?_ | refine below_drawnN ?_ _ | refine below_new ?_ _))))
  have p2_w4 : w4.cell? ⟨w.heap.size + 1 + 1, 2, none⟩ = some (.bool false) := below_cell_of hb_w4 (by first | (go_simp; done) | (refine below_cell_of (w := w3) ?_ (by first | assumption | (go_simp; done)); (repeat (first | assumption | exact Below.refl _ _ | refine below_set ?_ (by first | omega | (simp; done) | (simp; omega)) _ | refine below_drawn ?_ | refine below_drawnN ?_ _ | refine below_new ?_ _))))
  go_wp2_with fail
  refine (through_any (some ⟨w4.heap.size + 1 + 1, 0, none⟩) 3 3 [⟨some ⟨w.heap.size + 1, 0, none⟩, 2, 2, [0, 1], 40, false⟩, ⟨some ⟨w4.heap.size, 0, none⟩, 1, 1, [0], 0, false⟩, ⟨some ⟨w4.heap.size + 1, 0, none⟩, 1, 1, [1], 0, false⟩] 1 _ (rdP_three (by first | assumption | (go_simp; done) | (refine below_cell_of (w := w4) ?_ (by first | assumption | (go_simp; done)); (repeat (first | assumption | exact Below.refl _ _ | refine below_set ?_ (by first | omega | (simp; done) | (simp; omega)) _ | refine below_drawn ?_ | refine below_drawnN ?_ _ | refine below_new ?_ _)))) (by first | assumption | (go_simp; done) | (refine below_cell_of (w := w4) ?_ (by first | assumption | (go_simp; done)); (repeat (first | assumption | exact Below.refl _ _ | refine below_set ?_ (by first | omega | (simp; done) | (simp; omega)) _ | refine below_drawn ?_ | refine below_drawnN ?_ _ | refine below_new ?_ _)))) (by first | assumption | (go_simp; done) | (refine below_cell_of (w := w4) ?_ (by first | assumption | (go_simp; done)); (repeat (first | assumption | exact Below.refl _ _ | refine below_set ?_ (by first | omega | (simp; done) | (simp; omega)) _ | refine below_drawn ?_ | refine below_drawnN ?_ _ | refine below_new ?_ _)))) ⟨rdI_two (by first | assumption | (go_simp; done) | (refine below_cell_of (w := w4) ?_ (by first | assumption | (go_simp; done)); (repeat (first | assumption | exact Below.refl _ _ | refine below_set ?_ (by first | omega | (simp; done) | (simp; omega)) _ | refine below_drawn ?_ | refine below_drawnN ?_ _ | refine below_new ?_ _)))) (by first | assumption | (go_simp; done) | (refine below_cell_of (w := w4) ?_ (by first | assumption | (go_simp; done)); (repeat (first | assumption | exact Below.refl _ _ | refine below_set ?_ (by first | omega | (simp; done) | (simp; omega)) _ | refine below_drawn ?_ | refine below_drawnN ?_ _ | refine below_new ?_ _)))), by show ((2 : Nat) : Int) ≤ 9223372036854775807; omega⟩ (by first | assumption | (go_simp; done) | (refine below_cell_of (w := w4) ?_ (by first | assumption | (go_simp; done)); (repeat (first | assumption | exact Below.refl _ _ | refine below_set ?_ (by first | omega | (simp; done) | (simp; omega)) _ | refine below_drawn ?_ | refine below_drawnN ?_ _ | refine below_new ?_ _)))) (by first | assumption | (go_simp; done) | (refine below_cell_of (w := w4) ?_ (by first | assumption | (go_simp; done)); (repeat (first | assumption | exact Below.refl _ _ | refine below_set ?_ (by first | omega | (simp; done) | (simp; omega)) _ | refine below_drawn ?_ | refine below_drawnN ?_ _ | refine below_new ?_ _)))) (by first | assumption | (go_simp; done) | (refine below_cell_of (w := w4) ?_ (by first | assumption | (go_simp; done)); (repeat (first | assumption | exact Below.refl _ _ | refine below_set ?_ (by first | omega | (simp; done) | (simp; omega)) _ | refine below_drawn ?_ | refine below_drawnN ?_ _ | refine below_new ?_ _)))) ⟨rdI_one (by first | assumption | (go_simp; done) | (refine below_cell_of (w := w4) ?_ (by first | assumption | (go_simp; done)); (repeat (first | assumption | exact Below.refl _ _ | refine below_set ?_ (by first | omega | (simp; done) | (simp; omega)) _ | refine below_drawn ?_ | refine below_drawnN ?_ _ | refine below_new ?_ _)))), by show ((1 : Nat) : Int) ≤ 9223372036854775807; omega⟩ (by first | assumption | (go_simp; done) | (refine below_cell_of (w := w4) ?_ (by first | assumption | (go_simp; done)); (repeat (first | assumption | exact Below.refl _ _ | refine below_set ?_ (by first | omega | (simp; done) | (simp; omega)) _ | refine below_drawn ?_ | refine below_drawnN ?_ _ | refine below_new ?_ _)))) (by first | assumption | (go_simp; done) | (refine below_cell_of (w := w4) ?_ (by first | assumption | (go_simp; done)); (repeat (first | assumption | exact Below.refl _ _ | refine below_set ?_ (by first | omega | (simp; done) | (simp; omega)) _ | refine below_drawn ?_ | refine below_drawnN ?_ _ | refine below_new ?_ _)))) (by first | assumption | (go_simp; done) | (refine below_cell_of (w := w4) ?_ (by first | assumption | (go_simp; done)); (repeat (first | assumption | exact Below.refl _ _ | refine below_set ?_ (by first | omega | (simp; done) | (simp; omega)) _ | refine below_drawn ?_ | refine below_drawnN ?_ _ | refine below_new ?_ _)))) ⟨rdI_one (by first | assumption | (go_simp; done) | (refine below_cell_of (w := w4) ?_ (by first | assumption | (go_simp; done)); (repeat (first | assumption | exact Below.refl _ _ | refine below_set ?_ (by first | omega | (simp; done) | (simp; omega)) _ | refine below_drawn ?_ | refine below_drawnN ?_ _ | refine below_new ?_ _)))), by show ((1 : Nat) : Int) ≤ 9223372036854775807; omega⟩) (by omega)).mono ?_
  rintro e w5 ⟨⟨A, n, c, rfl, hrd, hat⟩, hb_w5⟩
  have hB_w5 : Below w.heap.size w w5 := below_on (by first | ((repeat (first | assumption | exact Below.refl _ _ | refine below_set ?_ (by first | omega | (simp; done) | (simp; omega)) _ | refine below_drawn ?_ | refine below_drawnN ?_ _ | refine below_new ?_ _)); done) | (refine below_on hB_w4 ?_; (repeat (first | assumption | exact Below.refl _ _ | refine below_set ?_ (by first | omega | (simp; done) | (simp; omega)) _ | refine below_drawn ?_ | refine below_drawnN ?_ _ | refine below_new ?_ _)))) hb_w5
  have hz_w5 := hb_w5.size
  try simp only [World.size_setCell] at hz_w5
  try simp only [World.size_drew] at hz_w5
  try simp only [World.size_drewN] at hz_w5
  try simp only [World.size_alloc] at hz_w5
  try simp only [World.size_setCell] at hz_w5
  try simp only [World.size_drew] at hz_w5
  try simp only [World.size_drewN] at hz_w5
  try simp only [World.size_alloc] at hz_w5
  have hl0_w5 : w.heap.size + 1 < w5.heap.size := by omega
  have hl1_w5 : w.heap.size + 1 + 1 < w5.heap.size := by omega
  have e0_w5 : w5.cell? ⟨w.heap.size + 1, 0, none⟩ = some (.int .i64 0) := below_cell_of hb_w5 (by first | (go_simp; done) | (refine below_cell_of (w := w4) ?_ (by first | assumption | (go_simp; done)); (repeat (first | assumption | exact Below.refl _ _ | refine below_set ?_ (by first | omega | (simp; done) | (simp; omega)) _ | refine below_drawn ?_ | refine below_drawnN ?_ _ | refine below_new ?_ _))))
  have e1_w5 : w5.cell? ⟨w.heap.size + 1, 1, none⟩ = some (.int .i64 1) := below_cell_of hb_w5 (by first | (go_simp; done) | (refine below_cell_of (w := w4) ?_ (by first | assumption | (go_simp; done)); (repeat (first | assumption | exact Below.refl _ _ | refine below_set ?_ (by first | omega | (simp; done) | (simp; omega)) _ | refine below_drawn ?_ | refine below_drawnN ?_ _ | refine below_new ?_ _))))
  have p0_w5 : w5.cell? ⟨w.heap.size + 1 + 1, 0, none⟩ = some (.slice (some ⟨w.heap.size + 1, 0, none⟩) 2 2) := below_cell_of hb_w5 (by first | (go_simp; done) | (refine below_cell_of (w := w4) ?_ (by first | assumption | (go_simp; done)); (repeat (first | assumption | exact Below.refl _ _ | refine below_set ?_ (by first | omega | (simp; done) | (simp; omega)) _ | refine below_drawn ?_ | refine below_drawnN ?_ _ | refine below_new ?_ _))))
  have p1_w5 : w5.cell? ⟨w.heap.size + 1 + 1, 1, none⟩ = some (.int .i64 40) := below_cell_of hb_w5 (by first | (go_simp; done) | (refine below_cell_of (w := w4) ?_ (by first | assumption | (go_simp; done)); (repeat (first | assumption | exact Below.refl _ _ | refine below_set ?_ (by first | omega | (simp; done) | (simp; omega)) _ | refine below_drawn ?_ | refine below_drawnN ?_ _ | refine below_new ?_ _))))
  have p2_w5 : w5.cell? ⟨w.heap.size + 1 + 1, 2, none⟩ = some (.bool false) := below_cell_of hb_w5 (by first | (go_simp; done) | (refine below_cell_of (w := w4) ?_ (by first | assumption | (go_simp; done)); (repeat (first | assumption | exact Below.refl _ _ | refine below_set ?_ (by first | omega | (simp; done) | (simp; omega)) _ | refine below_drawn ?_ | refine below_drawnN ?_ _ | refine below_new ?_ _))))
  rw [show Ro.through 1 (List.map PathV.ls [⟨some ⟨w.heap.size + 1, 0, none⟩, 2, 2, [0, 1], 40, false⟩, ⟨some ⟨w4.heap.size, 0, none⟩, 1, 1, [0], 0, false⟩, ⟨some ⟨w4.heap.size + 1, 0, none⟩, 1, 1, [1], 0, false⟩]) = [0, 2] from rfl] at hrd
  obtain rfl : n = 2 := hrd.1.symm
  have HRD := Lib.hid hrd
  clear hrd hat
  go_wp2_with fail
  refine (ints_any A 2 c [0, 2] (some ⟨w5.heap.size, 0, none⟩) 2 2 [0, 2] _ (HRD.out.below (below_new (Below.refl _ _) _)) (rdI_two (by first | assumption | (go_simp; done) | (refine below_cell_of (w := w5) ?_ (by first | assumption | (go_simp; done)); (repeat (first | assumption | exact Below.refl _ _ | refine below_set ?_ (by first | omega | (simp; done) | (simp; omega)) _ | refine below_drawn ?_ | refine below_drawnN ?_ _ | refine below_new ?_ _)))) (by first | assumption | (go_simp; done) | (refine below_cell_of (w := w5) ?_ (by first | assumption | (go_simp; done)); (repeat (first | assumption | exact Below.refl _ _ | refine below_set ?_ (by first | omega | (simp; done) | (simp; omega)) _ | refine below_drawn ?_ | refine below_drawnN ?_ _ | refine below_new ?_ _))))) (by omega) (by omega)).mono ?_
  rw [show decide (([0, 2] : List Int) = [0, 2]) = true from rfl]
  rintro e w6 ⟨rfl, hb_w6⟩
  have hB_w6 : Below w.heap.size w w6 := below_on (by first | ((repeat (first | assumption | exact Below.refl _ _ | refine below_set ?_ (by first | omega | (simp; done) | (simp; omega)) _ | refine below_drawn ?_ | refine below_drawnN ?_ _ | refine below_new ?_ _)); done) | (refine below_on hB_w5 ?_; (repeat (first | assumption | exact Below.refl _ _ | refine below_set ?_ (by first | omega | (simp; done) | (simp; omega)) _ | refine below_drawn ?_ | refine below_drawnN ?_ _ | refine below_new ?_ _)))) hb_w6
  have hz_w6 := hb_w6.size
  try simp only [World.size_setCell] at hz_w6
  try simp only [World.size_drew] at hz_w6
  try simp only [World.size_drewN] at hz_w6
  try simp only [World.size_alloc] at hz_w6
  try simp only [World.size_setCell] at hz_w6
  try simp only [World.size_drew] at hz_w6
  try simp only [World.size_drewN] at hz_w6
  try simp only [World.size_alloc] at hz_w6
  have hl0_w6 : w.heap.size + 1 < w6.heap.size := by omega
  have hl1_w6 : w.heap.size + 1 + 1 < w6.heap.size := by omega
  have e0_w6 : w6.cell? ⟨w.heap.size + 1, 0, none⟩ = some (.int .i64 0) := below_cell_of hb_w6 (by first | (go_simp; done) | (refine below_cell_of (w := w5) ?_ (by first | assumption | (go_simp; done)); (repeat (first | assumption | exact Below.refl _ _ | refine below_set ?_ (by first | omega | (simp; done) | (simp; omega)) _ | refine below_drawn ?_ | refine below_drawnN ?_ _ | refine below_new ?_ _))))
  have e1_w6 : w6.cell? ⟨w.heap.size + 1, 1, none⟩ = some (.int .i64 1) := below_cell_of hb_w6 (by first | (go_simp; done) | (refine below_cell_of (w := w5) ?_ (by first | assumption | (go_simp; done)); (repeat (first | assumption | exact Below.refl _ _ | refine below_set ?_ (by first | omega | (simp; done) | (simp; omega)) _ | refine below_drawn ?_ | refine below_drawnN ?_ _ | refine below_new ?_ _))))
  have p0_w6 : w6.cell? ⟨w.heap.size + 1 + 1, 0, none⟩ = some (.slice (some ⟨w.heap.size + 1, 0, none⟩) 2 2) := below_cell_of hb_w6 (by first | (go_simp; done) | (refine below_cell_of (w := w5) ?_ (by first | assumption | (go_simp; done)); (repeat (first | assumption | exact Below.refl _ _ | refine below_set ?_ (by first | omega | (simp; done) | (simp; omega)) _ | refine below_drawn ?_ | refine below_drawnN ?_ _ | refine below_new ?_ _))))
  have p1_w6 : w6.cell? ⟨w.heap.size + 1 + 1, 1, none⟩ = some (.int .i64 40) := below_cell_of hb_w6 (by first | (go_simp; done) | (refine below_cell_of (w := w5) ?_ (by first | assumption | (go_simp; done)); (repeat (first | assumption | exact Below.refl _ _ | refine below_set ?_ (by first | omega | (simp; done) | (simp; omega)) _ | refine below_drawn ?_ | refine below_drawnN ?_ _ | refine below_new ?_ _))))
  have p2_w6 : w6.cell? ⟨w.heap.size + 1 + 1, 2, none⟩ = some (.bool false) := below_cell_of hb_w6 (by first | (go_simp; done) | (refine below_cell_of (w := w5) ?_ (by first | assumption | (go_simp; done)); (repeat (first | assumption | exact Below.refl _ _ | refine below_set ?_ (by first | omega | (simp; done) | (simp; omega)) _ | refine below_drawn ?_ | refine below_drawnN ?_ _ | refine below_new ?_ _))))
  go_wp2_with fail
  refine (check_any 2 (some ⟨w6.heap.size, 0, none⟩) 1 1 [⟨some ⟨w.heap.size + 1, 0, none⟩, 2, 2, [0, 1], 40, false⟩] _ (rdP_one (by first | assumption | (go_simp; done) | (refine below_cell_of (w := w6) ?_ (by first | assumption | (go_simp; done)); (repeat (first | assumption | exact Below.refl _ _ | refine below_set ?_ (by first | omega | (simp; done) | (simp; omega)) _ | refine below_drawn ?_ | refine below_drawnN ?_ _ | refine below_new ?_ _)))) (by first | assumption | (go_simp; done) | (refine below_cell_of (w := w6) ?_ (by first | assumption | (go_simp; done)); (repeat (first | assumption | exact Below.refl _ _ | refine below_set ?_ (by first | omega | (simp; done) | (simp; omega)) _ | refine below_drawn ?_ | refine below_drawnN ?_ _ | refine below_new ?_ _)))) (by first | assumption | (go_simp; done) | (refine below_cell_of (w := w6) ?_ (by first | assumption | (go_simp; done)); (repeat (first | assumption | exact Below.refl _ _ | refine below_set ?_ (by first | omega | (simp; done) | (simp; omega)) _ | refine below_drawn ?_ | refine below_drawnN ?_ _ | refine below_new ?_ _)))) ⟨rdI_two (by first | assumption | (go_simp; done) | (refine below_cell_of (w := w6) ?_ (by first | assumption | (go_simp; done)); (repeat (first | assumption | exact Below.refl _ _ | refine below_set ?_ (by first | omega | (simp; done) | (simp; omega)) _ | refine below_drawn ?_ | refine below_drawnN ?_ _ | refine below_new ?_ _)))) (by first | assumption | (go_simp; done) | (refine below_cell_of (w := w6) ?_ (by first | assumption | (go_simp; done)); (repeat (first | assumption | exact Below.refl _ _ | refine below_set ?_ (by first | omega | (simp; done) | (simp; omega)) _ | refine below_drawn ?_ | refine below_drawnN ?_ _ | refine below_new ?_ _)))), by show ((2 : Nat) : Int) ≤ 9223372036854775807; omega⟩) (by omega)).mono ?_
  rw [show Ro.check 2 (List.map PathV.plain [⟨some ⟨w.heap.size + 1, 0, none⟩, 2, 2, [0, 1], 40, false⟩]) = 0 from (by decide +kernel : Ro.check 2 [([0, 1], 40)] = 0)]
  rintro e w7 ⟨rfl, hb_w7⟩
  have hB_w7 : Below w.heap.size w w7 := below_on (by first | ((repeat (first | assumption | exact Below.refl _ _ | refine below_set ?_ (by first | omega | (simp; done) | (simp; omega)) _ | refine below_drawn ?_ | refine below_drawnN ?_ _ | refine below_new ?_ _)); done) | (refine below_on hB_w6 ?_; (repeat (first | assumption | exact Below.refl _ _ | refine below_set ?_ (by first | omega | (simp; done) | (simp; omega)) _ | refine below_drawn ?_ | refine below_drawnN ?_ _ | refine below_new ?_ _)))) hb_w7
  have hz_w7 := hb_w7.size
  try simp only [World.size_setCell] at hz_w7
  try simp only [World.size_drew] at hz_w7
  try simp only [World.size_drewN] at hz_w7
  try simp only [World.size_alloc] at hz_w7
  try simp only [World.size_setCell] at hz_w7
  try simp only [World.size_drew] at hz_w7
  try simp only [World.size_drewN] at hz_w7
  try simp only [World.size_alloc] at hz_w7
  have hl0_w7 : w.heap.size + 1 < w7.heap.size := by omega
  have hl1_w7 : w.heap.size + 1 + 1 < w7.heap.size := by omega
  have e0_w7 : w7.cell? ⟨w.heap.size + 1, 0, none⟩ = some (.int .i64 0) := below_cell_of hb_w7 (by first | (go_simp; done) | (refine below_cell_of (w := w6) ?_ (by first | assumption | (go_simp; done)); (repeat (first | assumption | exact Below.refl _ _ | refine below_set ?_ (by first | omega | (simp; done) | (simp; omega)) _ | refine below_drawn ?_ | refine below_drawnN ?_ _ | refine below_new ?_ _))))
  have e1_w7 : w7.cell? ⟨w.heap.size + 1, 1, none⟩ = some (.int .i64 1) := below_cell_of hb_w7 (by first | (go_simp; done) | (refine below_cell_of (w := w6) ?_ (by first | assumption | (go_simp; done)); (repeat (first | assumption | exact Below.refl _ _ | refine below_set ?_ (by first | omega | (simp; done) | (simp; omega)) _ | refine below_drawn ?_ | refine below_drawnN ?_ _ | refine below_new ?_ _))))
  have p0_w7 : w7.cell? ⟨w.heap.size + 1 + 1, 0, none⟩ = some (.slice (some ⟨w.heap.size + 1, 0, none⟩) 2 2) := below_cell_of hb_w7 (by first | (go_simp; done) | (refine below_cell_of (w := w6) ?_ (by first | assumption | (go_simp; done)); (repeat (first | assumption | exact Below.refl _ _ | refine below_set ?_ (by first | omega | (simp; done) | (simp; omega)) _ | refine below_drawn ?_ | refine below_drawnN ?_ _ | refine below_new ?_ _))))
  have p1_w7 : w7.cell? ⟨w.heap.size + 1 + 1, 1, none⟩ = some (.int .i64 40) := below_cell_of hb_w7 (by first | (go_simp; done) | (refine below_cell_of (w := w6) ?_ (by first | assumption | (go_simp; done)); (repeat (first | assumption | exact Below.refl _ _ | refine below_set ?_ (by first | omega | (simp; done) | (simp; omega)) _ | refine below_drawn ?_ | refine below_drawnN ?_ _ | refine below_new ?_ _))))
  have p2_w7 : w7.cell? ⟨w.heap.size + 1 + 1, 2, none⟩ = some (.bool false) := below_cell_of hb_w7 (by first | (go_simp; done) | (refine below_cell_of (w := w6) ?_ (by first | assumption | (go_simp; done)); (repeat (first | assumption | exact Below.refl _ _ | refine below_set ?_ (by first | omega | (simp; done) | (simp; omega)) _ | refine below_drawn ?_ | refine below_drawnN ?_ _ | refine below_new ?_ _))))
  go_wp2_with fail
  refine (check_any 1 (some ⟨w7.heap.size, 0, none⟩) 1 1 [⟨some ⟨w.heap.size + 1, 0, none⟩, 2, 2, [0, 1], 40, false⟩] _ (rdP_one (by first | assumption | (go_simp; done) | (refine below_cell_of (w := w7) ?_ (by first | assumption | (go_simp; done)); (repeat (first | assumption | exact Below.refl _ _ | refine below_set ?_ (by first | omega | (simp; done) | (simp; omega)) _ | refine below_drawn ?_ | refine below_drawnN ?_ _ | refine below_new ?_ _)))) (by first | assumption | (go_simp; done) | (refine below_cell_of (w := w7) ?_ (by first | assumption | (go_simp; done)); (repeat (first | assumption | exact Below.refl _ _ | refine below_set ?_ (by first | omega | (simp; done) | (simp; omega)) _ | refine below_drawn ?_ | refine below_drawnN ?_ _ | refine below_new ?_ _)))) (by first | assumption | (go_simp; done) | (refine below_cell_of (w := w7) ?_ (by first | assumption | (go_simp; done)); (repeat (first | assumption | exact Below.refl _ _ | refine below_set ?_ (by first | omega | (simp; done) | (simp; omega)) _ | refine below_drawn ?_ | refine below_drawnN ?_ _ | refine below_new ?_ _)))) ⟨rdI_two (by first | assumption | (go_simp; done) | (refine below_cell_of (w := w7) ?_ (by first | assumption | (go_simp; done)); (repeat (first | assumption | exact Below.refl _ _ | refine below_set ?_ (by first | omega | (simp; done) | (simp; omega)) _ | refine below_drawn ?_ | refine below_drawnN ?_ _ | refine below_new ?_ _)))) (by first | assumption | (go_simp; done) | (refine below_cell_of (w := w7) ?_ (by first | assumption | (go_simp; done)); (repeat (first | assumption | exact Below.refl _ _ | refine below_set ?_ (by first | omega | (simp; done) | (simp; omega)) _ | refine below_drawn ?_ | refine below_drawnN ?_ _ | refine below_new ?_ _)))), by show ((2 : Nat) : Int) ≤ 9223372036854775807; omega⟩) (by omega)).mono ?_
  rw [show Ro.check 1 (List.map PathV.plain [⟨some ⟨w.heap.size + 1, 0, none⟩, 2, 2, [0, 1], 40, false⟩]) = 4 from (by decide +kernel : Ro.check 1 [([0, 1], 40)] = 4)]
  rintro e w8 ⟨rfl, hb_w8⟩
  have hB_w8 : Below w.heap.size w w8 := below_on (by first | ((repeat (first | assumption | exact Below.refl _ _ | refine below_set ?_ (by first | omega | (simp; done) | (simp; omega)) _ | refine below_drawn ?_ | refine below_drawnN ?_ _ | refine below_new ?_ _)); done) | (refine below_on hB_w7 ?_; (repeat (first | assumption | exact Below.refl _ _ | refine below_set ?_ (by first | omega | (simp; done) | (simp; omega)) _ | refine below_drawn ?_ | refine below_drawnN ?_ _ | refine below_new ?_ _)))) hb_w8
  have hz_w8 := hb_w8.size
  try simp only [World.size_setCell] at hz_w8
  try simp only [World.size_drew] at hz_w8
  try simp only [World.size_drewN] at hz_w8
  try simp only [World.size_alloc] at hz_w8
  try simp only [World.size_setCell] at hz_w8
  try simp only [World.size_drew] at hz_w8
  try simp only [World.size_drewN] at hz_w8
  try simp only [World.size_alloc] at hz_w8
  have hl0_w8 : w.heap.size + 1 < w8.heap.size := by omega
  have hl1_w8 : w.heap.size + 1 + 1 < w8.heap.size := by omega
  have e0_w8 : w8.cell? ⟨w.heap.size + 1, 0, none⟩ = some (.int .i64 0) := below_cell_of hb_w8 (by first | (go_simp; done) | (refine below_cell_of (w := w7) ?_ (by first | assumption | (go_simp; done)); (repeat (first | assumption | exact Below.refl _ _ | refine below_set ?_ (by first | omega | (simp; done) | (simp; omega)) _ | refine below_drawn ?_ | refine below_drawnN ?_ _ | refine below_new ?_ _))))
  have e1_w8 : w8.cell? ⟨w.heap.size + 1, 1, none⟩ = some (.int .i64 1) := below_cell_of hb_w8 (by first | (go_simp; done) | (refine below_cell_of (w := w7) ?_ (by first | assumption | (go_simp; done)); (repeat (first | assumption | exact Below.refl _ _ | refine below_set ?_ (by first | omega | (simp; done) | (simp; omega)) _ | refine below_drawn ?_ | refine below_drawnN ?_ _ | refine below_new ?_ _))))
  have p0_w8 : w8.cell? ⟨w.heap.size + 1 + 1, 0, none⟩ = some (.slice (some ⟨w.heap.size + 1, 0, none⟩) 2 2) := below_cell_of hb_w8 (by first | (go_simp; done) | (refine below_cell_of (w := w7) ?_ (by first | assumption | (go_simp; done)); (repeat (first | assumption | exact Below.refl _ _ | refine below_set ?_ (by first | omega | (simp; done) | (simp; omega)) _ | refine below_drawn ?_ | refine below_drawnN ?_ _ | refine below_new ?_ _))))
  have p1_w8 : w8.cell? ⟨w.heap.size + 1 + 1, 1, none⟩ = some (.int .i64 40) := below_cell_of hb_w8 (by first | (go_simp; done) | (refine below_cell_of (w := w7) ?_ (by first | assumption | (go_simp; done)); (repeat (first | assumption | exact Below.refl _ _ | refine below_set ?_ (by first | omega | (simp; done) | (simp; omega)) _ | refine below_drawn ?_ | refine below_drawnN ?_ _ | refine below_new ?_ _))))
  have p2_w8 : w8.cell? ⟨w.heap.size + 1 + 1, 2, none⟩ = some (.bool false) := below_cell_of hb_w8 (by first | (go_simp; done) | (refine below_cell_of (w := w7) ?_ (by first | assumption | (go_simp; done)); (repeat (first | assumption | exact Below.refl _ _ | refine below_set ?_ (by first | omega | (simp; done) | (simp; omega)) _ | refine below_drawn ?_ | refine below_drawnN ?_ _ | refine below_new ?_ _))))
  go_wp2_with fail
  refine (check_any 2 (some ⟨w8.heap.size + 1, 0, none⟩) 1 1 [⟨some ⟨w8.heap.size, 0, none⟩, 3, 3, [1, 0, 1], 0, false⟩] _ (rdP_one (by first | assumption | (go_simp; done) | (refine below_cell_of (w := w8) ?_ (by first | assumption | (go_simp; done)); (repeat (first | assumption | exact Below.refl _ _ | refine below_set ?_ (by first | omega | (simp; done) | (simp; omega)) _ | refine below_drawn ?_ | refine below_drawnN ?_ _ | refine below_new ?_ _)))) (by first | assumption | (go_simp; done) | (refine below_cell_of (w := w8) ?_ (by first | assumption | (go_simp; done)); (repeat (first | assumption | exact Below.refl _ _ | refine below_set ?_ (by first | omega | (simp; done) | (simp; omega)) _ | refine below_drawn ?_ | refine below_drawnN ?_ _ | refine below_new ?_ _)))) (by first | assumption | (go_simp; done) | (refine below_cell_of (w := w8) ?_ (by first | assumption | (go_simp; done)); (repeat (first | assumption | exact Below.refl _ _ | refine below_set ?_ (by first | omega | (simp; done) | (simp; omega)) _ | refine below_drawn ?_ | refine below_drawnN ?_ _ | refine below_new ?_ _)))) ⟨rdI_three (by first | assumption | (go_simp; done) | (refine below_cell_of (w := w8) ?_ (by first | assumption | (go_simp; done)); (repeat (first | assumption | exact Below.refl _ _ | refine below_set ?_ (by first | omega | (simp; done) | (simp; omega)) _ | refine below_drawn ?_ | refine below_drawnN ?_ _ | refine below_new ?_ _)))) (by first | assumption | (go_simp; done) | (refine below_cell_of (w := w8) ?_ (by first | assumption | (go_simp; done)); (repeat (first | assumption | exact Below.refl _ _ | refine below_set ?_ (by first | omega | (simp; done) | (simp; omega)) _ | refine below_drawn ?_ | refine below_drawnN ?_ _ | refine below_new ?_ _)))) (by first | assumption | (go_simp; done) | (refine below_cell_of (w := w8) ?_ (by first | assumption | (go_simp; done)); (repeat (first | assumption | exact Below.refl _ _ | refine below_set ?_ (by first | omega | (simp; done) | (simp; omega)) _ | refine below_drawn ?_ | refine below_drawnN ?_ _ | refine below_new ?_ _)))), by show ((3 : Nat) : Int) ≤ 9223372036854775807; omega⟩) (by omega)).mono ?_
  rw [show Ro.check 2 (List.map PathV.plain [⟨some ⟨w8.heap.size, 0, none⟩, 3, 3, [1, 0, 1], 0, false⟩]) = 16 from (by decide +kernel : Ro.check 2 [([1, 0, 1], 0)] = 16)]
  rintro e w9 ⟨rfl, hb_w9⟩
  have hB_w9 : Below w.heap.size w w9 := below_on (by first | ((repeat (first | assumption | exact Below.refl _ _ | refine below_set ?_ (by first | omega | (simp; done) | (simp; omega)) _ | refine below_drawn ?_ | refine below_drawnN ?_ _ | refine below_new ?_ _)); done) | (refine below_on hB_w8 ?_; (repeat (first | assumption | exact Below.refl _ _ | refine below_set ?_ (by first | omega | (simp; done) | (simp; omega)) _ | refine below_drawn ?_ | refine below_drawnN ?_ _ | refine below_new ?_ _)))) hb_w9
  have hz_w9 := hb_w9.size
  try simp only [World.size_setCell] at hz_w9
  try simp only [World.size_drew] at hz_w9
  try simp only [World.size_drewN] at hz_w9
  try simp only [World.size_alloc] at hz_w9
  try simp only [World.size_setCell] at hz_w9
  try simp only [World.size_drew] at hz_w9
  try simp only [World.size_drewN] at hz_w9
  try simp only [World.size_alloc] at hz_w9
  have hl0_w9 : w.heap.size + 1 < w9.heap.size := by omega
  have hl1_w9 : w.heap.size + 1 + 1 < w9.heap.size := by omega
  have e0_w9 : w9.cell? ⟨w.heap.size + 1, 0, none⟩ = some (.int .i64 0) := below_cell_of hb_w9 (by first | (go_simp; done) | (refine below_cell_of (w := w8) ?_ (by first | assumption | (go_simp; done)); (repeat (first | assumption | exact Below.refl _ _ | refine below_set ?_ (by first | omega | (simp; done) | (simp; omega)) _ | refine below_drawn ?_ | refine below_drawnN ?_ _ | refine below_new ?_ _))))
  have e1_w9 : w9.cell? ⟨w.heap.size + 1, 1, none⟩ = some (.int .i64 1) := below_cell_of hb_w9 (by first | (go_simp; done) | (refine below_cell_of (w := w8) ?_ (by first | assumption | (go_simp; done)); (repeat (first | assumption | exact Below.refl _ _ | refine below_set ?_ (by first | omega | (simp; done) | (simp; omega)) _ | refine below_drawn ?_ | refine below_drawnN ?_ _ | refine below_new ?_ _))))
  have p0_w9 : w9.cell? ⟨w.heap.size + 1 + 1, 0, none⟩ = some (.slice (some ⟨w.heap.size + 1, 0, none⟩) 2 2) := below_cell_of hb_w9 (by first | (go_simp; done) | (refine below_cell_of (w := w8) ?_ (by first | assumption | (go_simp; done)); (repeat (first | assumption | exact Below.refl _ _ | refine below_set ?_ (by first | omega | (simp; done) | (simp; omega)) _ | refine below_drawn ?_ | refine below_drawnN ?_ _ | refine below_new ?_ _))))
  have p1_w9 : w9.cell? ⟨w.heap.size + 1 + 1, 1, none⟩ = some (.int .i64 40) := below_cell_of hb_w9 (by first | (go_simp; done) | (refine below_cell_of (w := w8) ?_ (by first | assumption | (go_simp; done)); (repeat (first | assumption | exact Below.refl _ _ | refine below_set ?_ (by first | omega | (simp; done) | (simp; omega)) _ | refine below_drawn ?_ | refine below_drawnN ?_ _ | refine below_new ?_ _))))
  have p2_w9 : w9.cell? ⟨w.heap.size + 1 + 1, 2, none⟩ = some (.bool false) := below_cell_of hb_w9 (by first | (go_simp; done) | (refine below_cell_of (w := w8) ?_ (by first | assumption | (go_simp; done)); (repeat (first | assumption | exact Below.refl _ _ | refine below_set ?_ (by first | omega | (simp; done) | (simp; omega)) _ | refine below_drawn ?_ | refine below_drawnN ?_ _ | refine below_new ?_ _))))
  go_wp2_with fail
  refine (check_any 2 (some ⟨w9.heap.size, 0, none⟩) 2 2 [⟨some ⟨w.heap.size + 1, 0, none⟩, 2, 2, [0, 1], 40, false⟩, ⟨none, 0, 0, [], 0, false⟩] _ (rdP_two (by first | assumption | (go_simp; done) | (refine below_cell_of (w := w9) ?_ (by first | assumption | (go_simp; done)); (repeat (first | assumption | exact Below.refl _ _ | refine below_set ?_ (by first | omega | (simp; done) | (simp; omega)) _ | refine below_drawn ?_ | refine below_drawnN ?_ _ | refine below_new ?_ _)))) (by first | assumption | (go_simp; done) | (refine below_cell_of (w := w9) ?_ (by first | assumption | (go_simp; done)); (repeat (first | assumption | exact Below.refl _ _ | refine below_set ?_ (by first | omega | (simp; done) | (simp; omega)) _ | refine below_drawn ?_ | refine below_drawnN ?_ _ | refine below_new ?_ _)))) (by first | assumption | (go_simp; done) | (refine below_cell_of (w := w9) ?_ (by first | assumption | (go_simp; done)); (repeat (first | assumption | exact Below.refl _ _ | refine below_set ?_ (by first | omega | (simp; done) | (simp; omega)) _ | refine below_drawn ?_ | refine below_drawnN ?_ _ | refine below_new ?_ _)))) ⟨rdI_two (by first | assumption | (go_simp; done) | (refine below_cell_of (w := w9) ?_ (by first | assumption | (go_simp; done)); (repeat (first | assumption | exact Below.refl _ _ | refine below_set ?_ (by first | omega | (simp; done) | (simp; omega)) _ | refine below_drawn ?_ | refine below_drawnN ?_ _ | refine below_new ?_ _)))) (by first | assumption | (go_simp; done) | (refine below_cell_of (w := w9) ?_ (by first | assumption | (go_simp; done)); (repeat (first | assumption | exact Below.refl _ _ | refine below_set ?_ (by first | omega | (simp; done) | (simp; omega)) _ | refine below_drawn ?_ | refine below_drawnN ?_ _ | refine below_new ?_ _)))), by show ((2 : Nat) : Int) ≤ 9223372036854775807; omega⟩ (by first | assumption | (go_simp; done) | (refine below_cell_of (w := w9) ?_ (by first | assumption | (go_simp; done)); (repeat (first | assumption | exact Below.refl _ _ | refine below_set ?_ (by first | omega | (simp; done) | (simp; omega)) _ | refine below_drawn ?_ | refine below_drawnN ?_ _ | refine below_new ?_ _)))) (by first | assumption | (go_simp; done) | (refine below_cell_of (w := w9) ?_ (by first | assumption | (go_simp; done)); (repeat (first | assumption | exact Below.refl _ _ | refine below_set ?_ (by first | omega | (simp; done) | (simp; omega)) _ | refine below_drawn ?_ | refine below_drawnN ?_ _ | refine below_new ?_ _)))) (by first | assumption | (go_simp; done) | (refine below_cell_of (w := w9) ?_ (by first | assumption | (go_simp; done)); (repeat (first | assumption | exact Below.refl _ _ | refine below_set ?_ (by first | omega | (simp; done) | (simp; omega)) _ | refine below_drawn ?_ | refine below_drawnN ?_ _ | refine below_new ?_ _)))) (nil_in _ _ _)) (by omega)).mono ?_
  rw [show Ro.check 2 (List.map PathV.plain [⟨some ⟨w.heap.size + 1, 0, none⟩, 2, 2, [0, 1], 40, false⟩, ⟨none, 0, 0, [], 0, false⟩]) = 1 from (by decide +kernel : Ro.check 2 [([0, 1], 40), ([], 0)] = 1)]
  rintro e w10 ⟨rfl, hb_w10⟩
  have hB_w10 : Below w.heap.size w w10 := below_on (by first | ((repeat (first | assumption | exact Below.refl _ _ | refine below_set ?_ (by first | omega | (simp; done) | (simp; omega)) _ | refine below_drawn ?_ | refine below_drawnN ?_ _ | refine below_new ?_ _)); done) | (refine below_on hB_w9 ?_; (repeat (first | assumption | exact Below.refl _ _ | refine below_set ?_ (by first | omega | (simp; done) | (simp; omega)) _ | refine below_drawn ?_ | refine below_drawnN ?_ _ | refine below_new ?_ _)))) hb_w10
  have hz_w10 := hb_w10.size
  try simp only [World.size_setCell] at hz_w10
  try simp only [World.size_drew] at hz_w10
  try simp only [World.size_drewN] at hz_w10
  try simp only [World.size_alloc] at hz_w10
  try simp only [World.size_setCell] at hz_w10
  try simp only [World.size_drew] at hz_w10
  try simp only [World.size_drewN] at hz_w10
  try simp only [World.size_alloc] at hz_w10
  have hl0_w10 : w.heap.size + 1 < w10.heap.size := by omega
  have hl1_w10 : w.heap.size + 1 + 1 < w10.heap.size := by omega
  have e0_w10 : w10.cell? ⟨w.heap.size + 1, 0, none⟩ = some (.int .i64 0) := below_cell_of hb_w10 (by first | (go_simp; done) | (refine below_cell_of (w := w9) ?_ (by first | assumption | (go_simp; done)); (repeat (first | assumption | exact Below.refl _ _ | refine below_set ?_ (by first | omega | (simp; done) | (simp; omega)) _ | refine below_drawn ?_ | refine below_drawnN ?_ _ | refine below_new ?_ _))))
  have e1_w10 : w10.cell? ⟨w.heap.size + 1, 1, none⟩ = some (.int .i64 1) := below_cell_of hb_w10 (by first | (go_simp; done) | (refine below_cell_of (w := w9) ?_ (by first | assumption | (go_simp; done)); (repeat (first | assumption | exact Below.refl _ _ | refine below_set ?_ (by first | omega | (simp; done) | (simp; omega)) _ | refine below_drawn ?_ | refine below_drawnN ?_ _ | refine below_new ?_ _))))
  have p0_w10 : w10.cell? ⟨w.heap.size + 1 + 1, 0, none⟩ = some (.slice (some ⟨w.heap.size + 1, 0, none⟩) 2 2) := below_cell_of hb_w10 (by first | (go_simp; done) | (refine below_cell_of (w := w9) ?_ (by first | assumption | (go_simp; done)); (repeat (first | assumption | exact Below.refl _ _ | refine below_set ?_ (by first | omega | (simp; done) | (simp; omega)) _ | refine below_drawn ?_ | refine below_drawnN ?_ _ | refine below_new ?_ _))))
  have p1_w10 : w10.cell? ⟨w.heap.size + 1 + 1, 1, none⟩ = some (.int .i64 40) := below_cell_of hb_w10 (by first | (go_simp; done) | (refine below_cell_of (w := w9) ?_ (by first | assumption | (go_simp; done)); (repeat (first | assumption | exact Below.refl _ _ | refine below_set ?_ (by first | omega | (simp; done) | (simp; omega)) _ | refine below_drawn ?_ | refine below_drawnN ?_ _ | refine below_new ?_ _))))
  have p2_w10 : w10.cell? ⟨w.heap.size + 1 + 1, 2, none⟩ = some (.bool false) := below_cell_of hb_w10 (by first | (go_simp; done) | (refine below_cell_of (w := w9) ?_ (by first | assumption | (go_simp; done)); (repeat (first | assumption | exact Below.refl _ _ | refine below_set ?_ (by first | omega | (simp; done) | (simp; omega)) _ | refine below_drawn ?_ | refine below_drawnN ?_ _ | refine below_new ?_ _))))
  go_wp2_with fail
  refine (check_any 2 (some ⟨w10.heap.size + 1, 0, none⟩) 1 1 [⟨some ⟨w10.heap.size, 0, none⟩, 1, 1, [0], -1, false⟩] _ (rdP_one (by first | assumption | (go_simp; done) | (refine below_cell_of (w := w10) ?_ (by first | assumption | (go_simp; done)); (repeat (first | assumption | exact Below.refl _ _ | refine below_set ?_ (by first | omega | (simp; done) | (simp; omega)) _ | refine below_drawn ?_ | refine below_drawnN ?_ _ | refine below_new ?_ _)))) (by first | assumption | (go_simp; done) | (refine below_cell_of (w := w10) ?_ (by first | assumption | (go_simp; done)); (repeat (first | assumption | exact Below.refl _ _ | refine below_set ?_ (by first | omega | (simp; done) | (simp; omega)) _ | refine below_drawn ?_ | refine below_drawnN ?_ _ | refine below_new ?_ _)))) (by first | assumption | (go_simp; done) | (refine below_cell_of (w := w10) ?_ (by first | assumption | (go_simp; done)); (repeat (first | assumption | exact Below.refl _ _ | refine below_set ?_ (by first | omega | (simp; done) | (simp; omega)) _ | refine below_drawn ?_ | refine below_drawnN ?_ _ | refine below_new ?_ _)))) ⟨rdI_one (by first | assumption | (go_simp; done) | (refine below_cell_of (w := w10) ?_ (by first | assumption | (go_simp; done)); (repeat (first | assumption | exact Below.refl _ _ | refine below_set ?_ (by first | omega | (simp; done) | (simp; omega)) _ | refine below_drawn ?_ | refine below_drawnN ?_ _ | refine below_new ?_ _)))), by show ((1 : Nat) : Int) ≤ 9223372036854775807; omega⟩) (by omega)).mono ?_
  rw [show Ro.check 2 (List.map PathV.plain [⟨some ⟨w10.heap.size, 0, none⟩, 1, 1, [0], -1, false⟩]) = 3 from (by decide +kernel : Ro.check 2 [([0], -1)] = 3)]
  rintro e w11 ⟨rfl, hb_w11⟩
  have hB_w11 : Below w.heap.size w w11 := below_on (by first | ((repeat (first | assumption | exact Below.refl _ _ | refine below_set ?_ (by first | omega | (simp; done) | (simp; omega)) _ | refine below_drawn ?_ | refine below_drawnN ?_ _ | refine below_new ?_ _)); done) | (refine below_on hB_w10 ?_; (repeat (first | assumption | exact Below.refl _ _ | refine below_set ?_ (by first | omega | (simp; done) | (simp; omega)) _ | refine below_drawn ?_ | refine below_drawnN ?_ _ | refine below_new ?_ _)))) hb_w11
  have hz_w11 := hb_w11.size
  try simp only [World.size_setCell] at hz_w11
  try simp only [World.size_drew] at hz_w11
  try simp only [World.size_drewN] at hz_w11
  try simp only [World.size_alloc] at hz_w11
  try simp only [World.size_setCell] at hz_w11
  try simp only [World.size_drew] at hz_w11
  try simp only [World.size_drewN] at hz_w11
  try simp only [World.size_alloc] at hz_w11
  have hl0_w11 : w.heap.size + 1 < w11.heap.size := by omega
  have hl1_w11 : w.heap.size + 1 + 1 < w11.heap.size := by omega
  have e0_w11 : w11.cell? ⟨w.heap.size + 1, 0, none⟩ = some (.int .i64 0) := below_cell_of hb_w11 (by first | (go_simp; done) | (refine below_cell_of (w := w10) ?_ (by first | assumption | (go_simp; done)); (repeat (first | assumption | exact Below.refl _ _ | refine below_set ?_ (by first | omega | (simp; done) | (simp; omega)) _ | refine below_drawn ?_ | refine below_drawnN ?_ _ | refine below_new ?_ _))))
  have e1_w11 : w11.cell? ⟨w.heap.size + 1, 1, none⟩ = some (.int .i64 1) := below_cell_of hb_w11 (by first | (go_simp; done) | (refine below_cell_of (w := w10) ?_ (by first | assumption | (go_simp; done)); (repeat (first | assumption | exact Below.refl _ _ | refine below_set ?_ (by first | omega | (simp; done) | (simp; omega)) _ | refine below_drawn ?_ | refine below_drawnN ?_ _ | refine below_new ?_ _))))
  have p0_w11 : w11.cell? ⟨w.heap.size + 1 + 1, 0, none⟩ = some (.slice (some ⟨w.heap.size + 1, 0, none⟩) 2 2) := below_cell_of hb_w11 (by first | (go_simp; done) | (refine below_cell_of (w := w10) ?_ (by first | assumption | (go_simp; done)); (repeat (first | assumption | exact Below.refl _ _ | refine below_set ?_ (by first | omega | (simp; done) | (simp; omega)) _ | refine below_drawn ?_ | refine below_drawnN ?_ _ | refine below_new ?_ _))))
  have p1_w11 : w11.cell? ⟨w.heap.size + 1 + 1, 1, none⟩ = some (.int .i64 40) := below_cell_of hb_w11 (by first | (go_simp; done) | (refine below_cell_of (w := w10) ?_ (by first | assumption | (go_simp; done)); (repeat (first | assumption | exact Below.refl _ _ | refine below_set ?_ (by first | omega | (simp; done) | (simp; omega)) _ | refine below_drawn ?_ | refine below_drawnN ?_ _ | refine below_new ?_ _))))
  have p2_w11 : w11.cell? ⟨w.heap.size + 1 + 1, 2, none⟩ = some (.bool false) := below_cell_of hb_w11 (by first | (go_simp; done) | (refine below_cell_of (w := w10) ?_ (by first | assumption | (go_simp; done)); (repeat (first | assumption | exact Below.refl _ _ | refine below_set ?_ (by first | omega | (simp; done) | (simp; omega)) _ | refine below_drawn ?_ | refine below_drawnN ?_ _ | refine below_new ?_ _))))
  go_wp2_with fail
  refine (check_any 9 none 0 0 [] _ (rdP_none _) (by omega)).mono ?_
  rw [show Ro.check 9 (List.map PathV.plain []) = 1 from by decide +kernel]
  rintro e w12 ⟨rfl, hb_w12⟩
  have hB_w12 : Below w.heap.size w w12 := below_on (by first | ((repeat (first | assumption | exact Below.refl _ _ | refine below_set ?_ (by first | omega | (simp; done) | (simp; omega)) _ | refine below_drawn ?_ | refine below_drawnN ?_ _ | refine below_new ?_ _)); done) | (refine below_on hB_w11 ?_; (repeat (first | assumption | exact Below.refl _ _ | refine below_set ?_ (by first | omega | (simp; done) | (simp; omega)) _ | refine below_drawn ?_ | refine below_drawnN ?_ _ | refine below_new ?_ _)))) hb_w12
  have hz_w12 := hb_w12.size
  try simp only [World.size_setCell] at hz_w12
  try simp only [World.size_drew] at hz_w12
  try simp only [World.size_drewN] at hz_w12
  try simp only [World.size_alloc] at hz_w12
  try simp only [World.size_setCell] at hz_w12
  try simp only [World.size_drew] at hz_w12
  try simp only [World.size_drewN] at hz_w12
  try simp only [World.size_alloc] at hz_w12
  have hl0_w12 : w.heap.size + 1 < w12.heap.size := by omega
  have hl1_w12 : w.heap.size + 1 + 1 < w12.heap.size := by omega
  have e0_w12 : w12.cell? ⟨w.heap.size + 1, 0, none⟩ = some (.int .i64 0) := below_cell_of hb_w12 (by first | (go_simp; done) | (refine below_cell_of (w := w11) ?_ (by first | assumption | (go_simp; done)); (repeat (first | assumption | exact Below.refl _ _ | refine below_set ?_ (by first | omega | (simp; done) | (simp; omega)) _ | refine below_drawn ?_ | refine below_drawnN ?_ _ | refine below_new ?_ _))))
  have e1_w12 : w12.cell? ⟨w.heap.size + 1, 1, none⟩ = some (.int .i64 1) := below_cell_of hb_w12 (by first | (go_simp; done) | (refine below_cell_of (w := w11) ?_ (by first | assumption | (go_simp; done)); (repeat (first | assumption | exact Below.refl _ _ | refine below_set ?_ (by first | omega | (simp; done) | (simp; omega)) _ | refine below_drawn ?_ | refine below_drawnN ?_ _ | refine below_new ?_ _))))
  have p0_w12 : w12.cell? ⟨w.heap.size + 1 + 1, 0, none⟩ = some (.slice (some ⟨w.heap.size + 1, 0, none⟩) 2 2) := below_cell_of hb_w12 (by first | (go_simp; done) | (refine below_cell_of (w := w11) ?_ (by first | assumption | (go_simp; done)); (repeat (first | assumption | exact Below.refl _ _ | refine below_set ?_ (by first | omega | (simp; done) | (simp; omega)) _ | refine below_drawn ?_ | refine below_drawnN ?_ _ | refine below_new ?_ _))))
  have p1_w12 : w12.cell? ⟨w.heap.size + 1 + 1, 1, none⟩ = some (.int .i64 40) := below_cell_of hb_w12 (by first | (go_simp; done) | (refine below_cell_of (w := w11) ?_ (by first | assumption | (go_simp; done)); (repeat (first | assumption | exact Below.refl _ _ | refine below_set ?_ (by first | omega | (simp; done) | (simp; omega)) _ | refine below_drawn ?_ | refine below_drawnN ?_ _ | refine below_new ?_ _))))
  have p2_w12 : w12.cell? ⟨w.heap.size + 1 + 1, 2, none⟩ = some (.bool false) := below_cell_of hb_w12 (by first | (go_simp; done) | (refine below_cell_of (w := w11) ?_ (by first | assumption | (go_simp; done)); (repeat (first | assumption | exact Below.refl _ _ | refine below_set ?_ (by first | omega | (simp; done) | (simp; omega)) _ | refine below_drawn ?_ | refine below_drawnN ?_ _ | refine below_new ?_ _))))
  obtain ⟨o, ho⟩ := make_paths w12
  go_wp2_with fail
  refine (check_long 2 _ 17 17 _ (by decide) (by omega) (by omega)).mono ?_
  rintro e w13 ⟨rfl, rfl⟩
  go_wp2
  go_ret
  exact ⟨rfl, below_new hB_w12 _⟩
end Go.Proofs.Ytjjplcjinhcpiaa
