/- The statement RouteMatchesReference: it returns true, whatever the input, and leaves what was in memory alone. -/
import Derived.Test.YtjjplcjinhcpiaaRoHead
import Derived.Test.YtjjplcjinhcpiaaRoRefC
namespace Go.Proofs.Ytjjplcjinhcpiaa
open Go.RowKit

theorem fewB_one' (p : PathV) : fewB 1 [p] = decide (p.len ≤ 20) := by
  unfold fewB
  simp
set_option maxHeartbeats 4000000 in
set_option maxRecDepth 100000 in
theorem match_entry (la : Option Addr) (ln lc : Nat) (ks : List LinkV) (a : Option Addr) (n c : Nat) (ps : List PathV) (pa : Option Addr) (pl pc : Nat) (pls : List Int) (pb : Int) (pu : Bool) (many hop link size : Int) (w : World) (hk : RdK w la ln ks) (_hkm : (ln : Int) ≤ 9223372036854775807) (hp : RdP w a n ps) (hpm : (n : Int) ≤ 9223372036854775807) (hl : RdI w .i64 pa pl pls) (hlm : (pl : Int) ≤ 9223372036854775807) :
    Calls Try.prog 3 #[.slice la ln lc, .slice a n c, .agg #[.slice pa pl pc, .int .i64 pb, .bool pu], .int .i64 many, .int .i64 hop, .int .i64 link, .int .i64 size] w fun e w' => e = .returned (.bool true) ∧ Below w.heap.size w w' := by
  have HK := Lib.hid hk
  have HP := Lib.hid hp
  have HL := Lib.hid hl
  clear hk hp hl
  obtain ⟨f, hf⟩ : ∃ f, (decide (ln ≤ 20) && fewB n ps) = f := ⟨_, rfl⟩
  have HF := Lib.hid hf
  clear hf
  go_enter Try.func3, Try.ntmps3
  go_wp2_with fail
  refine (head_ok _).mono ?_
  rintro e w1 ⟨rfl, hb_w1⟩
  have hB_w1 : Below w.heap.size w w1 := below_on (by (repeat (first | assumption | exact Below.refl _ _ | refine below_set ?_ (by first | omega | (simp; done) | (simp; omega)) _ | refine below_drawn ?_ | refine below_drawnN ?_ _ | refine below_new ?_ _))) hb_w1
  have hz_w1 := hb_w1.size
  try simp only [World.size_setCell] at hz_w1
  try simp only [World.size_drew] at hz_w1
  try simp only [World.size_drewN] at hz_w1
  try simp only [World.size_alloc] at hz_w1
  try simp only [World.size_setCell] at hz_w1
  try simp only [World.size_drew] at hz_w1
  try simp only [World.size_drewN] at hz_w1
  try simp only [World.size_alloc] at hz_w1
  have hl0_w1 : w.heap.size < w1.heap.size := by omega
  have p0_w1 : w1.cell? ⟨w.heap.size, 0, none⟩ = some (.slice pa pl pc) := below_cell_of hb_w1 (by first | (go_simp; done) | (refine below_cell_of (w := w) ?_ (by first | assumption | (go_simp; done)); (repeat (first | assumption | exact Below.refl _ _ | refine below_set ?_ (by first | omega | (simp; done) | (simp; omega)) _ | refine below_drawn ?_ | refine below_drawnN ?_ _ | refine below_new ?_ _))))
  have p1_w1 : w1.cell? ⟨w.heap.size, 1, none⟩ = some (.int .i64 pb) := below_cell_of hb_w1 (by first | (go_simp; done) | (refine below_cell_of (w := w) ?_ (by first | assumption | (go_simp; done)); (repeat (first | assumption | exact Below.refl _ _ | refine below_set ?_ (by first | omega | (simp; done) | (simp; omega)) _ | refine below_drawn ?_ | refine below_drawnN ?_ _ | refine below_new ?_ _))))
  have p2_w1 : w1.cell? ⟨w.heap.size, 2, none⟩ = some (.bool pu) := below_cell_of hb_w1 (by first | (go_simp; done) | (refine below_cell_of (w := w) ?_ (by first | assumption | (go_simp; done)); (repeat (first | assumption | exact Below.refl _ _ | refine below_set ?_ (by first | omega | (simp; done) | (simp; omega)) _ | refine below_drawn ?_ | refine below_drawnN ?_ _ | refine below_new ?_ _))))
  go_wp2_with fail
  refine (few_any la ln lc a n c ps _ (HP.out.below hB_w1) hpm).mono ?_
  rw [HF.out]
  rintro e w1' ⟨rfl, rfl⟩
  cases f with
  | false =>
    go_wp2
    go_ret
    exact ⟨rfl, hB_w1⟩
  | true =>
    skip
    have h20 : ln ≤ 20 ∧ fewB n ps = true := by
      have := HF.out
      rw [Bool.and_eq_true] at this
      exact ⟨of_decide_eq_true this.1, this.2⟩
    obtain ⟨hln, hfp⟩ := h20
    have HFP := Lib.hid hfp
    have hn40 : n ≤ 40 := by
      have := hfp
      unfold fewB at this
      rw [Bool.and_eq_true] at this
      simpa using this.2
    clear hfp
    go_wp2_with fail
    refine (few_any la ln lc (some ⟨w1'.heap.size, 0, none⟩) 1 1 [⟨pa, pl, pc, pls, pb, pu⟩] _ (rdP_one (by go_simp) (by go_simp) (by go_simp) ⟨HL.out.below (below_new hB_w1 _), hlm⟩) (by omega)).mono ?_
    rw [fewB_one', show decide (ln ≤ 20) = true from decide_eq_true hln]
    rintro e w1'' ⟨rfl, rfl⟩
    by_cases hp20 : 20 < pl
    · have hp20' : ¬ pl ≤ 20 := by omega
      go_wp2
      go_ret
      exact ⟨rfl, below_new hB_w1 _⟩
    have hp20' : pl ≤ 20 := by omega
    go_wp2_with fail
    refine (next_any pa pl pc pls pb pu hop _ (HL.out.below (below_new hB_w1 _)) hlm).mono ?_
    rintro e w2 ⟨rfl, hb_w2⟩
    have hB_w2 : Below w.heap.size w w2 := below_on (by first | ((repeat (first | assumption | exact Below.refl _ _ | refine below_set ?_ (by first | omega | (simp; done) | (simp; omega)) _ | refine below_drawn ?_ | refine below_drawnN ?_ _ | refine below_new ?_ _)); done) | (refine below_on hB_w1 ?_; (repeat (first | assumption | exact Below.refl _ _ | refine below_set ?_ (by first | omega | (simp; done) | (simp; omega)) _ | refine below_drawn ?_ | refine below_drawnN ?_ _ | refine below_new ?_ _)))) hb_w2
    have hz_w2 := hb_w2.size
    try simp only [World.size_setCell] at hz_w2
    try simp only [World.size_drew] at hz_w2
    try simp only [World.size_drewN] at hz_w2
    try simp only [World.size_alloc] at hz_w2
    try simp only [World.size_setCell] at hz_w2
    try simp only [World.size_drew] at hz_w2
    try simp only [World.size_drewN] at hz_w2
    try simp only [World.size_alloc] at hz_w2
    have hl0_w2 : w.heap.size < w2.heap.size := by omega
    have p0_w2 : w2.cell? ⟨w.heap.size, 0, none⟩ = some (.slice pa pl pc) := below_cell_of hb_w2 (by first | (go_simp; done) | (refine below_cell_of (w := w1) ?_ (by first | assumption | (go_simp; done)); (repeat (first | assumption | exact Below.refl _ _ | refine below_set ?_ (by first | omega | (simp; done) | (simp; omega)) _ | refine below_drawn ?_ | refine below_drawnN ?_ _ | refine below_new ?_ _))))
    have p1_w2 : w2.cell? ⟨w.heap.size, 1, none⟩ = some (.int .i64 pb) := below_cell_of hb_w2 (by first | (go_simp; done) | (refine below_cell_of (w := w1) ?_ (by first | assumption | (go_simp; done)); (repeat (first | assumption | exact Below.refl _ _ | refine below_set ?_ (by first | omega | (simp; done) | (simp; omega)) _ | refine below_drawn ?_ | refine below_drawnN ?_ _ | refine below_new ?_ _))))
    have p2_w2 : w2.cell? ⟨w.heap.size, 2, none⟩ = some (.bool pu) := below_cell_of hb_w2 (by first | (go_simp; done) | (refine below_cell_of (w := w1) ?_ (by first | assumption | (go_simp; done)); (repeat (first | assumption | exact Below.refl _ _ | refine below_set ?_ (by first | omega | (simp; done) | (simp; omega)) _ | refine below_drawn ?_ | refine below_drawnN ?_ _ | refine below_new ?_ _))))
    go_wp2_with fail
    refine (rnext_any pa pl pc pls pb pu hop _ (HL.out.below hB_w2)).mono ?_
    rintro e w3 ⟨rfl, hb_w3⟩
    have hB_w3 : Below w.heap.size w w3 := below_on (by first | ((repeat (first | assumption | exact Below.refl _ _ | refine below_set ?_ (by first | omega | (simp; done) | (simp; omega)) _ | refine below_drawn ?_ | refine below_drawnN ?_ _ | refine below_new ?_ _)); done) | (refine below_on hB_w2 ?_; (repeat (first | assumption | exact Below.refl _ _ | refine below_set ?_ (by first | omega | (simp; done) | (simp; omega)) _ | refine below_drawn ?_ | refine below_drawnN ?_ _ | refine below_new ?_ _)))) hb_w3
    have hz_w3 := hb_w3.size
    try simp only [World.size_setCell] at hz_w3
    try simp only [World.size_drew] at hz_w3
    try simp only [World.size_drewN] at hz_w3
    try simp only [World.size_alloc] at hz_w3
    try simp only [World.size_setCell] at hz_w3
    try simp only [World.size_drew] at hz_w3
    try simp only [World.size_drewN] at hz_w3
    try simp only [World.size_alloc] at hz_w3
    have hl0_w3 : w.heap.size < w3.heap.size := by omega
    have p0_w3 : w3.cell? ⟨w.heap.size, 0, none⟩ = some (.slice pa pl pc) := below_cell_of hb_w3 (by first | (go_simp; done) | (refine below_cell_of (w := w2) ?_ (by first | assumption | (go_simp; done)); (repeat (first | assumption | exact Below.refl _ _ | refine below_set ?_ (by first | omega | (simp; done) | (simp; omega)) _ | refine below_drawn ?_ | refine below_drawnN ?_ _ | refine below_new ?_ _))))
    have p1_w3 : w3.cell? ⟨w.heap.size, 1, none⟩ = some (.int .i64 pb) := below_cell_of hb_w3 (by first | (go_simp; done) | (refine below_cell_of (w := w2) ?_ (by first | assumption | (go_simp; done)); (repeat (first | assumption | exact Below.refl _ _ | refine below_set ?_ (by first | omega | (simp; done) | (simp; omega)) _ | refine below_drawn ?_ | refine below_drawnN ?_ _ | refine below_new ?_ _))))
    have p2_w3 : w3.cell? ⟨w.heap.size, 2, none⟩ = some (.bool pu) := below_cell_of hb_w3 (by first | (go_simp; done) | (refine below_cell_of (w := w2) ?_ (by first | assumption | (go_simp; done)); (repeat (first | assumption | exact Below.refl _ _ | refine below_set ?_ (by first | omega | (simp; done) | (simp; omega)) _ | refine below_drawn ?_ | refine below_drawnN ?_ _ | refine below_new ?_ _))))
    go_wp2_with fail
    refine (trip_any la ln lc ks pa pl pc pls pb pu size _ (HK.out.below hB_w3) (HL.out.below hB_w3) (by omega)).mono ?_
    rintro e w4 ⟨rfl, hb_w4⟩
    have hB_w4 : Below w.heap.size w w4 := below_on (by first | ((repeat (first | assumption | exact Below.refl _ _ | refine below_set ?_ (by first | omega | (simp; done) | (simp; omega)) _ | refine below_drawn ?_ | refine below_drawnN ?_ _ | refine below_new ?_ _)); done) | (refine below_on hB_w3 ?_; (repeat (first | assumption | exact Below.refl _ _ | refine below_set ?_ (by first | omega | (simp; done) | (simp; omega)) _ | refine below_drawn ?_ | refine below_drawnN ?_ _ | refine below_new ?_ _)))) hb_w4
    have hz_w4 := hb_w4.size
    try simp only [World.size_setCell] at hz_w4
    try simp only [World.size_drew] at hz_w4
    try simp only [World.size_drewN] at hz_w4
    try simp only [World.size_alloc] at hz_w4
    try simp only [World.size_setCell] at hz_w4
    try simp only [World.size_drew] at hz_w4
    try simp only [World.size_drewN] at hz_w4
    try simp only [World.size_alloc] at hz_w4
    have hl0_w4 : w.heap.size < w4.heap.size := by omega
    have p0_w4 : w4.cell? ⟨w.heap.size, 0, none⟩ = some (.slice pa pl pc) := below_cell_of hb_w4 (by first | (go_simp; done) | (refine below_cell_of (w := w3) ?_ (by first | assumption | (go_simp; done)); (repeat (first | assumption | exact Below.refl _ _ | refine below_set ?_ (by first | omega | (simp; done) | (simp; omega)) _ | refine below_drawn ?_ | refine below_drawnN ?_ _ | refine below_new ?_ _))))
    have p1_w4 : w4.cell? ⟨w.heap.size, 1, none⟩ = some (.int .i64 pb) := below_cell_of hb_w4 (by first | (go_simp; done) | (refine below_cell_of (w := w3) ?_ (by first | assumption | (go_simp; done)); (repeat (first | assumption | exact Below.refl _ _ | refine below_set ?_ (by first | omega | (simp; done) | (simp; omega)) _ | refine below_drawn ?_ | refine below_drawnN ?_ _ | refine below_new ?_ _))))
    have p2_w4 : w4.cell? ⟨w.heap.size, 2, none⟩ = some (.bool pu) := below_cell_of hb_w4 (by first | (go_simp; done) | (refine below_cell_of (w := w3) ?_ (by first | assumption | (go_simp; done)); (repeat (first | assumption | exact Below.refl _ _ | refine below_set ?_ (by first | omega | (simp; done) | (simp; omega)) _ | refine below_drawn ?_ | refine below_drawnN ?_ _ | refine below_new ?_ _))))
    go_wp2_with fail
    refine (rtrip_any la ln lc ks pa pl pc pls pb pu size _ (HK.out.below hB_w4) (HL.out.below hB_w4) (by omega)).mono ?_
    rintro e w5 ⟨rfl, hb_w5⟩
    have hB_w5 : Below w.heap.size w w5 := below_on (by first | ((repeat (first | assumption | exact Below.refl _ _ | refine below_set ?_ (by first | omega | (simp; done) | (simp; omega)) _ | refine below_drawn ?_ | refine below_drawnN ?_ _ | refine below_new ?_ _)); done) | (refine below_on hB_w4 ?_; (repeat (first | assumption | exact Below.refl _ _ | refine below_set ?_ (by first | omega | (simp; done) | (simp; omega)) _ | refine below_drawn ?_ | refine below_drawnN ?_ _ | refine below_new ?_ _)))) hb_w5
    have hz_w5 := hb_w5.size
    try simp only [World.size_setCell] at hz_w5
    try simp only [World.size_drew] at hz_w5
    try simp only [World.size_drewN] at hz_w5
    try simp only [World.size_alloc] at hz_w5
    try simp only [World.size_setCell] at hz_w5
    try simp only [World.size_drew] at hz_w5
    try simp only [World.size_drewN] at hz_w5
    try simp only [World.size_alloc] at hz_w5
    have hl0_w5 : w.heap.size < w5.heap.size := by omega
    have p0_w5 : w5.cell? ⟨w.heap.size, 0, none⟩ = some (.slice pa pl pc) := below_cell_of hb_w5 (by first | (go_simp; done) | (refine below_cell_of (w := w4) ?_ (by first | assumption | (go_simp; done)); (repeat (first | assumption | exact Below.refl _ _ | refine below_set ?_ (by first | omega | (simp; done) | (simp; omega)) _ | refine below_drawn ?_ | refine below_drawnN ?_ _ | refine below_new ?_ _))))
    have p1_w5 : w5.cell? ⟨w.heap.size, 1, none⟩ = some (.int .i64 pb) := below_cell_of hb_w5 (by first | (go_simp; done) | (refine below_cell_of (w := w4) ?_ (by first | assumption | (go_simp; done)); (repeat (first | assumption | exact Below.refl _ _ | refine below_set ?_ (by first | omega | (simp; done) | (simp; omega)) _ | refine below_drawn ?_ | refine below_drawnN ?_ _ | refine below_new ?_ _))))
    have p2_w5 : w5.cell? ⟨w.heap.size, 2, none⟩ = some (.bool pu) := below_cell_of hb_w5 (by first | (go_simp; done) | (refine below_cell_of (w := w4) ?_ (by first | assumption | (go_simp; done)); (repeat (first | assumption | exact Below.refl _ _ | refine below_set ?_ (by first | omega | (simp; done) | (simp; omega)) _ | refine below_drawn ?_ | refine below_drawnN ?_ _ | refine below_new ?_ _))))
    go_wp2_with fail
    refine (check_any many a n c ps _ (HP.out.below hB_w5) hpm).mono ?_
    rintro e w6 ⟨rfl, hb_w6⟩
    have hB_w6 : Below w.heap.size w w6 := below_on (by first | ((repeat (first | assumption | exact Below.refl _ _ | refine below_set ?_ (by first | omega | (simp; done) | (simp; omega)) _ | refine below_drawn ?_ | refine below_drawnN ?_ _ | refine below_new ?_ _)); done) | (refine below_on hB_w5 ?_; (repeat (first | assumption | exact Below.refl _ _ | refine below_set ?_ (by first | omega | (simp; done) | (simp; omega)) _ | refine below_drawn ?_ | refine below_drawnN ?_ _ | refine below_new ?_ _)))) hb_w6
    have hz_w6 := hb_w6.size
    try simp only [World.size_setCell] at hz_w6
    try simp only [World.size_drew] at hz_w6
    try simp only [World.size_drewN] at hz_w6
    try simp only [World.size_alloc] at hz_w6
    try simp only [World.size_setCell] at hz_w6
    try simp only [World.size_drew] at hz_w6
    try simp only [World.size_drewN] at hz_w6
    try simp only [World.size_alloc] at hz_w6
    have hl0_w6 : w.heap.size < w6.heap.size := by omega
    have p0_w6 : w6.cell? ⟨w.heap.size, 0, none⟩ = some (.slice pa pl pc) := below_cell_of hb_w6 (by first | (go_simp; done) | (refine below_cell_of (w := w5) ?_ (by first | assumption | (go_simp; done)); (repeat (first | assumption | exact Below.refl _ _ | refine below_set ?_ (by first | omega | (simp; done) | (simp; omega)) _ | refine below_drawn ?_ | refine below_drawnN ?_ _ | refine below_new ?_ _))))
    have p1_w6 : w6.cell? ⟨w.heap.size, 1, none⟩ = some (.int .i64 pb) := below_cell_of hb_w6 (by first | (go_simp; done) | (refine below_cell_of (w := w5) ?_ (by first | assumption | (go_simp; done)); (repeat (first | assumption | exact Below.refl _ _ | refine below_set ?_ (by first | omega | (simp; done) | (simp; omega)) _ | refine below_drawn ?_ | refine below_drawnN ?_ _ | refine below_new ?_ _))))
    have p2_w6 : w6.cell? ⟨w.heap.size, 2, none⟩ = some (.bool pu) := below_cell_of hb_w6 (by first | (go_simp; done) | (refine below_cell_of (w := w5) ?_ (by first | assumption | (go_simp; done)); (repeat (first | assumption | exact Below.refl _ _ | refine below_set ?_ (by first | omega | (simp; done) | (simp; omega)) _ | refine below_drawn ?_ | refine below_drawnN ?_ _ | refine below_new ?_ _))))
    go_wp2_with fail
    refine (rcheck_any many a n c ps _ (HP.out.below hB_w6) hpm).mono ?_
    rintro e w7 ⟨rfl, hb_w7⟩
    have hB_w7 : Below w.heap.size w w7 := below_on (by first | ((repeat (first | assumption | exact Below.refl _ _ | refine below_set ?_ (by first | omega | (simp; done) | (simp; omega)) _ | refine below_drawn ?_ | refine below_drawnN ?_ _ | refine below_new ?_ _)); done) | (refine below_on hB_w6 ?_; (repeat (first | assumption | exact Below.refl _ _ | refine below_set ?_ (by first | omega | (simp; done) | (simp; omega)) _ | refine below_drawn ?_ | refine below_drawnN ?_ _ | refine below_new ?_ _)))) hb_w7
    have hz_w7 := hb_w7.size
    try simp only [World.size_setCell] at hz_w7
    try simp only [World.size_drew] at hz_w7
    try simp only [World.size_drewN] at hz_w7
    try simp only [World.size_alloc] at hz_w7
    try simp only [World.size_setCell] at hz_w7
    try simp only [World.size_drew] at hz_w7
    try simp only [World.size_drewN] at hz_w7
    try simp only [World.size_alloc] at hz_w7
    have hl0_w7 : w.heap.size < w7.heap.size := by omega
    have p0_w7 : w7.cell? ⟨w.heap.size, 0, none⟩ = some (.slice pa pl pc) := below_cell_of hb_w7 (by first | (go_simp; done) | (refine below_cell_of (w := w6) ?_ (by first | assumption | (go_simp; done)); (repeat (first | assumption | exact Below.refl _ _ | refine below_set ?_ (by first | omega | (simp; done) | (simp; omega)) _ | refine below_drawn ?_ | refine below_drawnN ?_ _ | refine below_new ?_ _))))
    have p1_w7 : w7.cell? ⟨w.heap.size, 1, none⟩ = some (.int .i64 pb) := below_cell_of hb_w7 (by first | (go_simp; done) | (refine below_cell_of (w := w6) ?_ (by first | assumption | (go_simp; done)); (repeat (first | assumption | exact Below.refl _ _ | refine below_set ?_ (by first | omega | (simp; done) | (simp; omega)) _ | refine below_drawn ?_ | refine below_drawnN ?_ _ | refine below_new ?_ _))))
    have p2_w7 : w7.cell? ⟨w.heap.size, 2, none⟩ = some (.bool pu) := below_cell_of hb_w7 (by first | (go_simp; done) | (refine below_cell_of (w := w6) ?_ (by first | assumption | (go_simp; done)); (repeat (first | assumption | exact Below.refl _ _ | refine below_set ?_ (by first | omega | (simp; done) | (simp; omega)) _ | refine below_drawn ?_ | refine below_drawnN ?_ _ | refine below_new ?_ _))))
    go_wp2_with fail
    refine (through_any a n c ps link _ (HP.out.below hB_w7) (by omega)).mono ?_
    rintro e w8 ⟨⟨A, m, d, rfl, hrd, hat⟩, hb_w8⟩
    have hB_w8 : Below w.heap.size w w8 := below_on (by first | ((repeat (first | assumption | exact Below.refl _ _ | refine below_set ?_ (by first | omega | (simp; done) | (simp; omega)) _ | refine below_drawn ?_ | refine below_drawnN ?_ _ | refine below_new ?_ _)); done) | (refine below_on hB_w7 ?_; (repeat (first | assumption | exact Below.refl _ _ | refine below_set ?_ (by first | omega | (simp; done) | (simp; omega)) _ | refine below_drawn ?_ | refine below_drawnN ?_ _ | refine below_new ?_ _)))) hb_w8
    have hz_w8 := hb_w8.size
    try simp only [World.size_setCell] at hz_w8
    try simp only [World.size_drew] at hz_w8
    try simp only [World.size_drewN] at hz_w8
    try simp only [World.size_alloc] at hz_w8
    try simp only [World.size_setCell] at hz_w8
    try simp only [World.size_drew] at hz_w8
    try simp only [World.size_drewN] at hz_w8
    try simp only [World.size_alloc] at hz_w8
    have hl0_w8 : w.heap.size < w8.heap.size := by omega
    have p0_w8 : w8.cell? ⟨w.heap.size, 0, none⟩ = some (.slice pa pl pc) := below_cell_of hb_w8 (by first | (go_simp; done) | (refine below_cell_of (w := w7) ?_ (by first | assumption | (go_simp; done)); (repeat (first | assumption | exact Below.refl _ _ | refine below_set ?_ (by first | omega | (simp; done) | (simp; omega)) _ | refine below_drawn ?_ | refine below_drawnN ?_ _ | refine below_new ?_ _))))
    have p1_w8 : w8.cell? ⟨w.heap.size, 1, none⟩ = some (.int .i64 pb) := below_cell_of hb_w8 (by first | (go_simp; done) | (refine below_cell_of (w := w7) ?_ (by first | assumption | (go_simp; done)); (repeat (first | assumption | exact Below.refl _ _ | refine below_set ?_ (by first | omega | (simp; done) | (simp; omega)) _ | refine below_drawn ?_ | refine below_drawnN ?_ _ | refine below_new ?_ _))))
    have p2_w8 : w8.cell? ⟨w.heap.size, 2, none⟩ = some (.bool pu) := below_cell_of hb_w8 (by first | (go_simp; done) | (refine below_cell_of (w := w7) ?_ (by first | assumption | (go_simp; done)); (repeat (first | assumption | exact Below.refl _ _ | refine below_set ?_ (by first | omega | (simp; done) | (simp; omega)) _ | refine below_drawn ?_ | refine below_drawnN ?_ _ | refine below_new ?_ _))))
    have HR := Lib.hid hrd
    clear hrd hat
    go_wp2_with fail
    refine (rthrough_any a n c ps link _ (HP.out.below hB_w8) (by omega)).mono ?_
    rintro e w9 ⟨⟨A2, m2, d2, rfl, hrd2, hat2⟩, hb_w9⟩
    have hB_w9 : Below w.heap.size w w9 := below_on (by first | ((repeat (first | assumption | exact Below.refl _ _ | refine below_set ?_ (by first | omega | (simp; done) | (simp; omega)) _ | refine below_drawn ?_ | refine below_drawnN ?_ _ | refine below_new ?_ _)); done) | (refine below_on hB_w8 ?_; (repeat (first | assumption | exact Below.refl _ _ | refine below_set ?_ (by first | omega | (simp; done) | (simp; omega)) _ | refine below_drawn ?_ | refine below_drawnN ?_ _ | refine below_new ?_ _)))) hb_w9
    have hz_w9 := hb_w9.size
    try simp only [World.size_setCell] at hz_w9
    try simp only [World.size_drew] at hz_w9
    try simp only [World.size_drewN] at hz_w9
    try simp only [World.size_alloc] at hz_w9
    try simp only [World.size_setCell] at hz_w9
    try simp only [World.size_drew] at hz_w9
    try simp only [World.size_drewN] at hz_w9
    try simp only [World.size_alloc] at hz_w9
    have hl0_w9 : w.heap.size < w9.heap.size := by omega
    have p0_w9 : w9.cell? ⟨w.heap.size, 0, none⟩ = some (.slice pa pl pc) := below_cell_of hb_w9 (by first | (go_simp; done) | (refine below_cell_of (w := w8) ?_ (by first | assumption | (go_simp; done)); (repeat (first | assumption | exact Below.refl _ _ | refine below_set ?_ (by first | omega | (simp; done) | (simp; omega)) _ | refine below_drawn ?_ | refine below_drawnN ?_ _ | refine below_new ?_ _))))
    have p1_w9 : w9.cell? ⟨w.heap.size, 1, none⟩ = some (.int .i64 pb) := below_cell_of hb_w9 (by first | (go_simp; done) | (refine below_cell_of (w := w8) ?_ (by first | assumption | (go_simp; done)); (repeat (first | assumption | exact Below.refl _ _ | refine below_set ?_ (by first | omega | (simp; done) | (simp; omega)) _ | refine below_drawn ?_ | refine below_drawnN ?_ _ | refine below_new ?_ _))))
    have p2_w9 : w9.cell? ⟨w.heap.size, 2, none⟩ = some (.bool pu) := below_cell_of hb_w9 (by first | (go_simp; done) | (refine below_cell_of (w := w8) ?_ (by first | assumption | (go_simp; done)); (repeat (first | assumption | exact Below.refl _ _ | refine below_set ?_ (by first | omega | (simp; done) | (simp; omega)) _ | refine below_drawn ?_ | refine below_drawnN ?_ _ | refine below_new ?_ _))))
    have HR1 := Lib.hid (HR.out.below hb_w9)
    have HR2 := Lib.hid hrd2
    have hm1 : m ≤ 40 := by
      have h1 := HR.out.1
      have h2 := Ro.throughTo_length link (ps.map PathV.ls) (ps.map PathV.ls).length
      unfold Ro.through at h1
      rw [h1, List.length_map, HP.out.1] at h2
      omega
    have hm2 : m2 ≤ 40 := by
      have h1 := HR2.out.1
      have h2 := Ro.throughTo_length link (ps.map PathV.ls) (ps.map PathV.ls).length
      unfold Ro.through at h1
      rw [h1, List.length_map, HP.out.1] at h2
      omega
    clear hrd2 hat2
    go_wp2_with fail
    refine (ints_any A m d (Ro.through link (ps.map PathV.ls)) A2 m2 d2 (Ro.through link (ps.map PathV.ls)) _ HR1.out HR2.out (by omega) (by omega)).mono ?_
    rw [show decide (Ro.through link (ps.map PathV.ls) = Ro.through link (ps.map PathV.ls)) = true from decide_eq_true rfl]
    rintro e w10 ⟨rfl, hb_w10⟩
    have hB_w10 : Below w.heap.size w w10 := below_on (by first | ((repeat (first | assumption | exact Below.refl _ _ | refine below_set ?_ (by first | omega | (simp; done) | (simp; omega)) _ | refine below_drawn ?_ | refine below_drawnN ?_ _ | refine below_new ?_ _)); done) | (refine below_on hB_w9 ?_; (repeat (first | assumption | exact Below.refl _ _ | refine below_set ?_ (by first | omega | (simp; done) | (simp; omega)) _ | refine below_drawn ?_ | refine below_drawnN ?_ _ | refine below_new ?_ _)))) hb_w10
    have hz_w10 := hb_w10.size
    try simp only [World.size_setCell] at hz_w10
    try simp only [World.size_drew] at hz_w10
    try simp only [World.size_drewN] at hz_w10
    try simp only [World.size_alloc] at hz_w10
    try simp only [World.size_setCell] at hz_w10
    try simp only [World.size_drew] at hz_w10
    try simp only [World.size_drewN] at hz_w10
    try simp only [World.size_alloc] at hz_w10
    have hl0_w10 : w.heap.size < w10.heap.size := by omega
    have p0_w10 : w10.cell? ⟨w.heap.size, 0, none⟩ = some (.slice pa pl pc) := below_cell_of hb_w10 (by first | (go_simp; done) | (refine below_cell_of (w := w9) ?_ (by first | assumption | (go_simp; done)); (repeat (first | assumption | exact Below.refl _ _ | refine below_set ?_ (by first | omega | (simp; done) | (simp; omega)) _ | refine below_drawn ?_ | refine below_drawnN ?_ _ | refine below_new ?_ _))))
    have p1_w10 : w10.cell? ⟨w.heap.size, 1, none⟩ = some (.int .i64 pb) := below_cell_of hb_w10 (by first | (go_simp; done) | (refine below_cell_of (w := w9) ?_ (by first | assumption | (go_simp; done)); (repeat (first | assumption | exact Below.refl _ _ | refine below_set ?_ (by first | omega | (simp; done) | (simp; omega)) _ | refine below_drawn ?_ | refine below_drawnN ?_ _ | refine below_new ?_ _))))
    have p2_w10 : w10.cell? ⟨w.heap.size, 2, none⟩ = some (.bool pu) := below_cell_of hb_w10 (by first | (go_simp; done) | (refine below_cell_of (w := w9) ?_ (by first | assumption | (go_simp; done)); (repeat (first | assumption | exact Below.refl _ _ | refine below_set ?_ (by first | omega | (simp; done) | (simp; omega)) _ | refine below_drawn ?_ | refine below_drawnN ?_ _ | refine below_new ?_ _))))
    go_wp2
    go_ret
    exact ⟨rfl, hB_w10⟩
end Go.Proofs.Ytjjplcjinhcpiaa
