/- Package ratio: what each operation returns. -/
import Derived.Test.YtjnjokkhkfdaiaaRatReduce
import Derived.Test.YtjnjokkhkfdaiaaRatMore
namespace Go.Proofs.Ytjnjokkhkfdaiaa
open Go.RowKit

theorem lowest_iff {n d : Int} (h : Rt.fits n d = true) : ((Rat.divInt n d).num = n ∧ ((Rat.divInt n d).den : Int) = d) ↔ Int.gcd n d = 1 := by
  have hb := Rt.fits_bd h
  constructor
  · rintro ⟨h1, h2⟩
    have := Rt.gcd_rat (Rat.divInt n d)
    rw [h1, h2] at this
    exact this
  · intro hg
    exact ⟨Rt.num_of (by omega) hg, Rt.den_of (by omega) hg⟩
theorem eq_two (x n y d : Int) (w : World) : (if x = n then if y = d then Result.ok (Next.value (Value.bool true)) w else Result.ok (Next.value (Value.bool false)) w else Result.ok (Next.value (Value.bool false)) w) = Result.ok (Next.value (Value.bool (x == n && y == d))) w := by
  by_cases h : x = n
  · by_cases k : y = d
    · rw [if_pos h, if_pos k, h, k]; simp
    · rw [if_pos h, if_neg k]; simp [k]
  · rw [if_neg h]; simp [h]
set_option maxHeartbeats 1000000 in
set_option maxRecDepth 100000 in
theorem valid_low (n d : Int) (w : World) (h : n < -1000000000) : Calls Try.prog 23 #[.agg #[.int .i64 n, .int .i64 d]] w fun e w' => e = .returned (.bool false) ∧ Below w.heap.size w w' := by
  have hlow : decide (-1000000000 ≤ n) = false := decide_eq_false (by omega)
  have HLOW := Lib.hid hlow
  clear hlow
  go_enter Try.func23, Try.ntmps23
  go_wp2
  refine wp_region_held_drew (S := (fun W => W.cell? ⟨w.heap.size, 0, none⟩ = some (.int .i64 n) ∧ W.cell? ⟨w.heap.size, 1, none⟩ = some (.int .i64 d) ∧ W.cell? ⟨w.heap.size + 1, 0, none⟩ = some (.int .i64 n) ∧ W.cell? ⟨w.heap.size + 1, 1, none⟩ = some (.int .i64 d) ∧ Below w.heap.size w W)) (by kernel_rfl) ?_ (fun hHeld => ?_)
  · exact ⟨by first | assumption | (go_simp; done), by first | assumption | (go_simp; done), by first | assumption | (go_simp; done), by first | assumption | (go_simp; done), by (repeat (first | assumption | exact Below.refl _ _ | refine below_set ?_ (by first | omega | (simp; done) | (simp; omega)) _ | refine below_drawn ?_ | refine below_drawnN ?_ _ | refine below_new ?_ _))⟩
  refine wpAnyH_take (i := 0) (v := ?_) rfl (by kernel_rfl) (by kernel_rfl) (by kernel_rfl) (fun _ _ _ h => h) (Or.inl ⟨by rfl, ?_⟩) hHeld ?_
  rotate_left
  · intro wS hSw; obtain ⟨hS0, hS1, hS2, hS3, hS4⟩ := hSw; go_simp; (try simp only [HLOW.out]); try with_reducible rfl
  try go_simp
  refine wpAnyH_take (i := 1) (v := ?_) rfl (by kernel_rfl) (by kernel_rfl) (by kernel_rfl) (fun _ _ _ h => h) (Or.inl ⟨by rfl, ?_⟩) hHeld ?_
  rotate_left
  · intro wS hSw; obtain ⟨hS0, hS1, hS2, hS3, hS4⟩ := hSw; go_simp; (try simp only [HLOW.out]); try with_reducible rfl
  try go_simp
  refine wpAnyH_take (i := 2) (v := ?_) rfl (by kernel_rfl) (by kernel_rfl) (by kernel_rfl) (fun _ _ _ h => h) (Or.inl ⟨by rfl, ?_⟩) hHeld ?_
  rotate_left
  · intro wS hSw; obtain ⟨hS0, hS1, hS2, hS3, hS4⟩ := hSw; go_simp; (try simp only [HLOW.out]); try with_reducible rfl
  try go_simp
  refine wpAnyH_take (i := 3) (v := ?_) rfl (by kernel_rfl) (by kernel_rfl) (by kernel_rfl) (fun _ _ _ h => h) (Or.inl ⟨by rfl, ?_⟩) hHeld ?_
  rotate_left
  · intro wS hSw; obtain ⟨hS0, hS1, hS2, hS3, hS4⟩ := hSw; go_simp; (try simp only [HLOW.out]); try with_reducible rfl
  try go_simp
  refine wpAnyH_take (i := 4) (v := undef) rfl (by kernel_rfl) (by kernel_rfl) (by kernel_rfl) (fun _ _ _ h => h) (Or.inr ⟨by rfl, rfl⟩) hHeld ?_
  try go_simp
  refine wpAnyH_take (i := 5) (v := undef) rfl (by kernel_rfl) (by kernel_rfl) (by kernel_rfl) (fun _ _ _ h => h) (Or.inr ⟨by rfl, rfl⟩) hHeld ?_
  try go_simp
  refine wpAnyH_take (i := 6) (v := ?_) rfl (by kernel_rfl) (by kernel_rfl) (by kernel_rfl) (fun _ _ _ h => h) (Or.inl ⟨by rfl, ?_⟩) hHeld ?_
  rotate_left
  · intro wS hSw; obtain ⟨hS0, hS1, hS2, hS3, hS4⟩ := hSw; go_simp; (try simp only [HLOW.out]); try with_reducible rfl
  try go_simp
  refine wpAnyH_take (i := 7) (v := ?_) rfl (by kernel_rfl) (by kernel_rfl) (by kernel_rfl) (fun _ _ _ h => h) (Or.inl ⟨by rfl, ?_⟩) hHeld ?_
  rotate_left
  · intro wS hSw; obtain ⟨hS0, hS1, hS2, hS3, hS4⟩ := hSw; go_simp; (try simp only [HLOW.out]); try with_reducible rfl
  try go_simp
  refine wpAnyH_take (i := 8) (v := undef) rfl (by kernel_rfl) (by kernel_rfl) (by kernel_rfl) (fun _ _ _ h => h) (Or.inr ⟨by rfl, rfl⟩) hHeld ?_
  try go_simp
  refine wpAnyH_take (i := 9) (v := undef) rfl (by kernel_rfl) (by kernel_rfl) (by kernel_rfl) (fun _ _ _ h => h) (Or.inr ⟨by rfl, rfl⟩) hHeld ?_
  try go_simp
  refine wpAnyH_take (i := 10) (v := undef) rfl (by kernel_rfl) (by kernel_rfl) (by kernel_rfl) (fun _ _ _ h => h) (Or.inr ⟨by rfl, rfl⟩) hHeld ?_
  try go_simp
  refine wpAnyH_take (i := 11) (v := undef) rfl (by kernel_rfl) (by kernel_rfl) (by kernel_rfl) (fun _ _ _ h => h) (Or.inr ⟨by rfl, rfl⟩) hHeld ?_
  try go_simp
  refine wpAnyH_take (i := 12) (v := ?_) rfl (by kernel_rfl) (by kernel_rfl) (by kernel_rfl) (fun _ _ _ h => h) (Or.inl ⟨by rfl, ?_⟩) hHeld ?_
  rotate_left
  · intro wS hSw; obtain ⟨hS0, hS1, hS2, hS3, hS4⟩ := hSw; go_simp; (try simp only [HLOW.out]); try with_reducible rfl
  try go_simp
  refine wpAnyH_take (i := 13) (v := ?_) rfl (by kernel_rfl) (by kernel_rfl) (by kernel_rfl) (fun _ _ _ h => h) (Or.inl ⟨by rfl, ?_⟩) hHeld ?_
  rotate_left
  · intro wS hSw; obtain ⟨hS0, hS1, hS2, hS3, hS4⟩ := hSw; go_simp; (try simp only [HLOW.out]); try with_reducible rfl
  try go_simp
  refine wpAnyH_done (by kernel_rfl) ?_ _
  obtain ⟨g0, g1, g2, g3, hBW⟩ := hHeld
  go_wp2
  go_ret
  exact ⟨rfl, hBW⟩
set_option maxHeartbeats 1000000 in
set_option maxRecDepth 100000 in
theorem valid_unfit (n d : Int) (w : World) (h : -1000000000 ≤ n) (k : n ≤ 9223372036854775807) (hf : Rt.fits n d = false) : Calls Try.prog 23 #[.agg #[.int .i64 n, .int .i64 d]] w fun e w' => e = .returned (.bool false) ∧ Below w.heap.size w w' := by
  have HF := Lib.hid hf
  clear hf
  go_enter Try.func23, Try.ntmps23
  go_wp2
  refine wp_region_held_drew (S := (fun W => W.cell? ⟨w.heap.size, 0, none⟩ = some (.int .i64 n) ∧ W.cell? ⟨w.heap.size, 1, none⟩ = some (.int .i64 d) ∧ W.cell? ⟨w.heap.size + 1, 0, none⟩ = some (.int .i64 n) ∧ W.cell? ⟨w.heap.size + 1, 1, none⟩ = some (.int .i64 d) ∧ Below w.heap.size w W)) (by kernel_rfl) ?_ (fun hHeld => ?_)
  · exact ⟨by first | assumption | (go_simp; done), by first | assumption | (go_simp; done), by first | assumption | (go_simp; done), by first | assumption | (go_simp; done), by (repeat (first | assumption | exact Below.refl _ _ | refine below_set ?_ (by first | omega | (simp; done) | (simp; omega)) _ | refine below_drawn ?_ | refine below_drawnN ?_ _ | refine below_new ?_ _))⟩
  refine wpAnyH_take (i := 0) (v := ?_) rfl (by kernel_rfl) (by kernel_rfl) (by kernel_rfl) (fun _ _ _ h => h) (Or.inl ⟨by rfl, ?_⟩) hHeld ?_
  rotate_left
  · intro wS hSw; obtain ⟨hS0, hS1, hS2, hS3, hS4⟩ := hSw; go_simp; try with_reducible rfl
  try go_simp
  refine wpAnyH_take (i := 1) (v := ?_) rfl (by kernel_rfl) (by kernel_rfl) (by kernel_rfl) (fun _ _ _ h => h) (Or.inl ⟨by rfl, ?_⟩) hHeld ?_
  rotate_left
  · intro wS hSw; obtain ⟨hS0, hS1, hS2, hS3, hS4⟩ := hSw; go_simp; try with_reducible rfl
  try go_simp
  refine wpAnyH_take (i := 2) (v := ?_) rfl (by kernel_rfl) (by kernel_rfl) (by kernel_rfl) (fun _ _ _ h => h) (Or.inl ⟨by rfl, ?_⟩) hHeld ?_
  rotate_left
  · intro wS hSw; obtain ⟨hS0, hS1, hS2, hS3, hS4⟩ := hSw; go_simp; try with_reducible rfl
  try go_simp
  refine wpAnyH_take (i := 3) (v := ?_) rfl (by kernel_rfl) (by kernel_rfl) (by kernel_rfl) (fun _ _ _ h => h) (Or.inl ⟨by rfl, ?_⟩) hHeld ?_
  rotate_left
  · intro wS hSw; obtain ⟨hS0, hS1, hS2, hS3, hS4⟩ := hSw; go_simp; try with_reducible rfl
  try go_simp
  refine wpAnyH_take (i := 4) (v := ?_) rfl (by kernel_rfl) (by kernel_rfl) (by kernel_rfl) (fun _ _ _ h => h) (Or.inl ⟨by rfl, ?_⟩) hHeld ?_
  rotate_left
  · intro wS hSw; obtain ⟨hS0, hS1, hS2, hS3, hS4⟩ := hSw; go_simp; try with_reducible rfl
  try go_simp
  refine wpAnyH_ready (rs := [5]) (by kernel_rfl) (by simp) ?_
  refine AllReadyH.cons rfl (fun K hK => ?_) AllReadyH.nil
  go_simp
  refine (fits_any n d _ (by omega) (by omega)).mono ?_
  rw [HF.out]
  rintro e w1 ⟨rfl, hb_w1⟩
  have hB_w1 : Below w.heap.size w w1 := below_on (by (repeat (first | assumption | exact Below.refl _ _ | refine below_set ?_ (by first | omega | (simp; done) | (simp; omega)) _ | refine below_drawn ?_ | refine below_drawnN ?_ _ | refine below_new ?_ _))) hb_w1
  have hz_w1 := hb_w1.size
  try simp only [World.size_setCell] at hz_w1
  try simp only [World.size_drew] at hz_w1
  try simp only [World.size_drewN] at hz_w1
  try simp only [World.size_alloc] at hz_w1
  try simp only [World.size_setCell] at hz_w1
  try simp only [World.size_drew] at hz_w1
  try simp only [World.size_drewN] at hz_w1
  try simp only [World.size_alloc] at hz_w1
  have hl0_w1 : w.heap.size < w1.heap.size := by omega
  have hl1_w1 : w.heap.size + 1 < w1.heap.size := by omega
  have c0_w1 : w1.cell? ⟨w.heap.size, 0, none⟩ = some (.int .i64 n) := below_cell_of hb_w1 (by first | (go_simp; done) | (refine below_cell_of (w := w) ?_ (by first | assumption | (go_simp; done)); (repeat (first | assumption | exact Below.refl _ _ | refine below_set ?_ (by first | omega | (simp; done) | (simp; omega)) _ | refine below_drawn ?_ | refine below_drawnN ?_ _ | refine below_new ?_ _))))
  have c1_w1 : w1.cell? ⟨w.heap.size, 1, none⟩ = some (.int .i64 d) := below_cell_of hb_w1 (by first | (go_simp; done) | (refine below_cell_of (w := w) ?_ (by first | assumption | (go_simp; done)); (repeat (first | assumption | exact Below.refl _ _ | refine below_set ?_ (by first | omega | (simp; done) | (simp; omega)) _ | refine below_drawn ?_ | refine below_drawnN ?_ _ | refine below_new ?_ _))))
  have e0_w1 : w1.cell? ⟨w.heap.size + 1, 0, none⟩ = some (.int .i64 n) := below_cell_of hb_w1 (by first | (go_simp; done) | (refine below_cell_of (w := w) ?_ (by first | assumption | (go_simp; done)); (repeat (first | assumption | exact Below.refl _ _ | refine below_set ?_ (by first | omega | (simp; done) | (simp; omega)) _ | refine below_drawn ?_ | refine below_drawnN ?_ _ | refine below_new ?_ _))))
  have e1_w1 : w1.cell? ⟨w.heap.size + 1, 1, none⟩ = some (.int .i64 d) := below_cell_of hb_w1 (by first | (go_simp; done) | (refine below_cell_of (w := w) ?_ (by first | assumption | (go_simp; done)); (repeat (first | assumption | exact Below.refl _ _ | refine below_set ?_ (by first | omega | (simp; done) | (simp; omega)) _ | refine below_drawn ?_ | refine below_drawnN ?_ _ | refine below_new ?_ _))))
  refine hK.out _ _ ?_ (fun hHeld => ?_)
  · exact ⟨by first | assumption | (go_simp; done), by first | assumption | (go_simp; done), by first | assumption | (go_simp; done), by first | assumption | (go_simp; done), by (repeat (first | assumption | exact Below.refl _ _ | refine below_set ?_ (by first | omega | (simp; done) | (simp; omega)) _ | refine below_drawn ?_ | refine below_drawnN ?_ _ | refine below_new ?_ _))⟩
  clear hK K
  try go_simp
  refine wpAnyH_take (i := 6) (v := ?_) rfl (by kernel_rfl) (by kernel_rfl) (by kernel_rfl) (fun _ _ _ h => h) (Or.inl ⟨by rfl, ?_⟩) hHeld ?_
  rotate_left
  · intro wS hSw; obtain ⟨hS0, hS1, hS2, hS3, hS4⟩ := hSw; go_simp; try with_reducible rfl
  try go_simp
  refine wpAnyH_take (i := 7) (v := ?_) rfl (by kernel_rfl) (by kernel_rfl) (by kernel_rfl) (fun _ _ _ h => h) (Or.inl ⟨by rfl, ?_⟩) hHeld ?_
  rotate_left
  · intro wS hSw; obtain ⟨hS0, hS1, hS2, hS3, hS4⟩ := hSw; go_simp; try with_reducible rfl
  try go_simp
  refine wpAnyH_take (i := 8) (v := undef) rfl (by kernel_rfl) (by kernel_rfl) (by kernel_rfl) (fun _ _ _ h => h) (Or.inr ⟨by rfl, rfl⟩) hHeld ?_
  try go_simp
  refine wpAnyH_take (i := 9) (v := undef) rfl (by kernel_rfl) (by kernel_rfl) (by kernel_rfl) (fun _ _ _ h => h) (Or.inr ⟨by rfl, rfl⟩) hHeld ?_
  try go_simp
  refine wpAnyH_take (i := 10) (v := undef) rfl (by kernel_rfl) (by kernel_rfl) (by kernel_rfl) (fun _ _ _ h => h) (Or.inr ⟨by rfl, rfl⟩) hHeld ?_
  try go_simp
  refine wpAnyH_take (i := 11) (v := undef) rfl (by kernel_rfl) (by kernel_rfl) (by kernel_rfl) (fun _ _ _ h => h) (Or.inr ⟨by rfl, rfl⟩) hHeld ?_
  try go_simp
  refine wpAnyH_take (i := 12) (v := ?_) rfl (by kernel_rfl) (by kernel_rfl) (by kernel_rfl) (fun _ _ _ h => h) (Or.inl ⟨by rfl, ?_⟩) hHeld ?_
  rotate_left
  · intro wS hSw; obtain ⟨hS0, hS1, hS2, hS3, hS4⟩ := hSw; go_simp; try with_reducible rfl
  try go_simp
  refine wpAnyH_take (i := 13) (v := ?_) rfl (by kernel_rfl) (by kernel_rfl) (by kernel_rfl) (fun _ _ _ h => h) (Or.inl ⟨by rfl, ?_⟩) hHeld ?_
  rotate_left
  · intro wS hSw; obtain ⟨hS0, hS1, hS2, hS3, hS4⟩ := hSw; go_simp; try with_reducible rfl
  try go_simp
  refine wpAnyH_done (by kernel_rfl) ?_ _
  obtain ⟨g0, g1, g2, g3, hBW⟩ := hHeld
  go_wp2
  go_ret
  exact ⟨rfl, hBW⟩
set_option maxHeartbeats 1000000 in
set_option maxRecDepth 100000 in
theorem valid_fit (n d : Int) (w : World) (x y : Int) (hf : Rt.fits n d = true) (hx : (Rat.divInt n d).num = x) (hy : ((Rat.divInt n d).den : Int) = y) : Calls Try.prog 23 #[.agg #[.int .i64 n, .int .i64 d]] w fun e w' => e = .returned (.bool (x == n && y == d)) ∧ Below w.heap.size w w' := by
  obtain ⟨h0, h1, h2, h3⟩ := Rt.fits_bd hf
  have HF := Lib.hid hf
  have HX := Lib.hid hx
  have HY := Lib.hid hy
  clear hf hx hy
  go_enter Try.func23, Try.ntmps23
  go_wp2
  refine wp_region_held_drew (S := (fun W => W.cell? ⟨w.heap.size, 0, none⟩ = some (.int .i64 n) ∧ W.cell? ⟨w.heap.size, 1, none⟩ = some (.int .i64 d) ∧ W.cell? ⟨w.heap.size + 1, 0, none⟩ = some (.int .i64 n) ∧ W.cell? ⟨w.heap.size + 1, 1, none⟩ = some (.int .i64 d) ∧ Below w.heap.size w W)) (by kernel_rfl) ?_ (fun hHeld => ?_)
  · exact ⟨by first | assumption | (go_simp; done), by first | assumption | (go_simp; done), by first | assumption | (go_simp; done), by first | assumption | (go_simp; done), by (repeat (first | assumption | exact Below.refl _ _ | refine below_set ?_ (by first | omega | (simp; done) | (simp; omega)) _ | refine below_drawn ?_ | refine below_drawnN ?_ _ | refine below_new ?_ _))⟩
  refine wpAnyH_take (i := 0) (v := ?_) rfl (by kernel_rfl) (by kernel_rfl) (by kernel_rfl) (fun _ _ _ h => h) (Or.inl ⟨by rfl, ?_⟩) hHeld ?_
  rotate_left
  · intro wS hSw; obtain ⟨hS0, hS1, hS2, hS3, hS4⟩ := hSw; go_simp; (try exact eq_two _ _ _ _ _); try with_reducible rfl
  try go_simp
  refine wpAnyH_take (i := 1) (v := ?_) rfl (by kernel_rfl) (by kernel_rfl) (by kernel_rfl) (fun _ _ _ h => h) (Or.inl ⟨by rfl, ?_⟩) hHeld ?_
  rotate_left
  · intro wS hSw; obtain ⟨hS0, hS1, hS2, hS3, hS4⟩ := hSw; go_simp; (try exact eq_two _ _ _ _ _); try with_reducible rfl
  try go_simp
  refine wpAnyH_take (i := 2) (v := ?_) rfl (by kernel_rfl) (by kernel_rfl) (by kernel_rfl) (fun _ _ _ h => h) (Or.inl ⟨by rfl, ?_⟩) hHeld ?_
  rotate_left
  · intro wS hSw; obtain ⟨hS0, hS1, hS2, hS3, hS4⟩ := hSw; go_simp; (try exact eq_two _ _ _ _ _); try with_reducible rfl
  try go_simp
  refine wpAnyH_take (i := 3) (v := ?_) rfl (by kernel_rfl) (by kernel_rfl) (by kernel_rfl) (fun _ _ _ h => h) (Or.inl ⟨by rfl, ?_⟩) hHeld ?_
  rotate_left
  · intro wS hSw; obtain ⟨hS0, hS1, hS2, hS3, hS4⟩ := hSw; go_simp; (try exact eq_two _ _ _ _ _); try with_reducible rfl
  try go_simp
  refine wpAnyH_take (i := 4) (v := ?_) rfl (by kernel_rfl) (by kernel_rfl) (by kernel_rfl) (fun _ _ _ h => h) (Or.inl ⟨by rfl, ?_⟩) hHeld ?_
  rotate_left
  · intro wS hSw; obtain ⟨hS0, hS1, hS2, hS3, hS4⟩ := hSw; go_simp; (try exact eq_two _ _ _ _ _); try with_reducible rfl
  try go_simp
  refine wpAnyH_ready (rs := [5]) (by kernel_rfl) (by simp) ?_
  refine AllReadyH.cons rfl (fun K hK => ?_) AllReadyH.nil
  go_simp
  refine (fits_any n d _ (by omega) (by omega)).mono ?_
  rw [HF.out]
  rintro e w1 ⟨rfl, hb_w1⟩
  have hB_w1 : Below w.heap.size w w1 := below_on (by (repeat (first | assumption | exact Below.refl _ _ | refine below_set ?_ (by first | omega | (simp; done) | (simp; omega)) _ | refine below_drawn ?_ | refine below_drawnN ?_ _ | refine below_new ?_ _))) hb_w1
  have hz_w1 := hb_w1.size
  try simp only [World.size_setCell] at hz_w1
  try simp only [World.size_drew] at hz_w1
  try simp only [World.size_drewN] at hz_w1
  try simp only [World.size_alloc] at hz_w1
  try simp only [World.size_setCell] at hz_w1
  try simp only [World.size_drew] at hz_w1
  try simp only [World.size_drewN] at hz_w1
  try simp only [World.size_alloc] at hz_w1
  have hl0_w1 : w.heap.size < w1.heap.size := by omega
  have hl1_w1 : w.heap.size + 1 < w1.heap.size := by omega
  have c0_w1 : w1.cell? ⟨w.heap.size, 0, none⟩ = some (.int .i64 n) := below_cell_of hb_w1 (by first | (go_simp; done) | (refine below_cell_of (w := w) ?_ (by first | assumption | (go_simp; done)); (repeat (first | assumption | exact Below.refl _ _ | refine below_set ?_ (by first | omega | (simp; done) | (simp; omega)) _ | refine below_drawn ?_ | refine below_drawnN ?_ _ | refine below_new ?_ _))))
  have c1_w1 : w1.cell? ⟨w.heap.size, 1, none⟩ = some (.int .i64 d) := below_cell_of hb_w1 (by first | (go_simp; done) | (refine below_cell_of (w := w) ?_ (by first | assumption | (go_simp; done)); (repeat (first | assumption | exact Below.refl _ _ | refine below_set ?_ (by first | omega | (simp; done) | (simp; omega)) _ | refine below_drawn ?_ | refine below_drawnN ?_ _ | refine below_new ?_ _))))
  have e0_w1 : w1.cell? ⟨w.heap.size + 1, 0, none⟩ = some (.int .i64 n) := below_cell_of hb_w1 (by first | (go_simp; done) | (refine below_cell_of (w := w) ?_ (by first | assumption | (go_simp; done)); (repeat (first | assumption | exact Below.refl _ _ | refine below_set ?_ (by first | omega | (simp; done) | (simp; omega)) _ | refine below_drawn ?_ | refine below_drawnN ?_ _ | refine below_new ?_ _))))
  have e1_w1 : w1.cell? ⟨w.heap.size + 1, 1, none⟩ = some (.int .i64 d) := below_cell_of hb_w1 (by first | (go_simp; done) | (refine below_cell_of (w := w) ?_ (by first | assumption | (go_simp; done)); (repeat (first | assumption | exact Below.refl _ _ | refine below_set ?_ (by first | omega | (simp; done) | (simp; omega)) _ | refine below_drawn ?_ | refine below_drawnN ?_ _ | refine below_new ?_ _))))
  refine hK.out _ _ ?_ (fun hHeld => ?_)
  · exact ⟨by first | assumption | (go_simp; done), by first | assumption | (go_simp; done), by first | assumption | (go_simp; done), by first | assumption | (go_simp; done), by (repeat (first | assumption | exact Below.refl _ _ | refine below_set ?_ (by first | omega | (simp; done) | (simp; omega)) _ | refine below_drawn ?_ | refine below_drawnN ?_ _ | refine below_new ?_ _))⟩
  clear hK K
  try go_simp
  refine wpAnyH_take (i := 6) (v := ?_) rfl (by kernel_rfl) (by kernel_rfl) (by kernel_rfl) (fun _ _ _ h => h) (Or.inl ⟨by rfl, ?_⟩) hHeld ?_
  rotate_left
  · intro wS hSw; obtain ⟨hS0, hS1, hS2, hS3, hS4⟩ := hSw; go_simp; (try exact eq_two _ _ _ _ _); try with_reducible rfl
  try go_simp
  refine wpAnyH_take (i := 7) (v := ?_) rfl (by kernel_rfl) (by kernel_rfl) (by kernel_rfl) (fun _ _ _ h => h) (Or.inl ⟨by rfl, ?_⟩) hHeld ?_
  rotate_left
  · intro wS hSw; obtain ⟨hS0, hS1, hS2, hS3, hS4⟩ := hSw; go_simp; (try exact eq_two _ _ _ _ _); try with_reducible rfl
  try go_simp
  refine wpAnyH_take (i := 8) (v := ?_) rfl (by kernel_rfl) (by kernel_rfl) (by kernel_rfl) (fun _ _ _ h => h) (Or.inl ⟨by rfl, ?_⟩) hHeld ?_
  rotate_left
  · intro wS hSw; obtain ⟨hS0, hS1, hS2, hS3, hS4⟩ := hSw; go_simp; (try exact eq_two _ _ _ _ _); try with_reducible rfl
  try go_simp
  refine wpAnyH_take (i := 10) (v := ?_) rfl (by kernel_rfl) (by kernel_rfl) (by kernel_rfl) (fun _ _ _ h => h) (Or.inl ⟨by rfl, ?_⟩) hHeld ?_
  rotate_left
  · intro wS hSw; obtain ⟨hS0, hS1, hS2, hS3, hS4⟩ := hSw; go_simp; (try exact eq_two _ _ _ _ _); try with_reducible rfl
  try go_simp
  refine wpAnyH_ready (rs := [9]) (by kernel_rfl) (by simp) ?_
  refine AllReadyH.cons rfl (fun K hK => ?_) AllReadyH.nil
  go_simp
  refine (reduce_any n d _ (by omega) (by omega) (by omega) (by omega) (by omega)).mono ?_
  rw [HX.out, HY.out]
  rintro e w2 ⟨rfl, hb_w2⟩
  have hB_w2 : Below w.heap.size w w2 := below_on (by first | ((repeat (first | assumption | exact Below.refl _ _ | refine below_set ?_ (by first | omega | (simp; done) | (simp; omega)) _ | refine below_drawn ?_ | refine below_drawnN ?_ _ | refine below_new ?_ _)); done) | (refine below_on hB_w1 ?_; (repeat (first | assumption | exact Below.refl _ _ | refine below_set ?_ (by first | omega | (simp; done) | (simp; omega)) _ | refine below_drawn ?_ | refine below_drawnN ?_ _ | refine below_new ?_ _)))) hb_w2
  have hz_w2 := hb_w2.size
  try simp only [World.size_setCell] at hz_w2
  try simp only [World.size_drew] at hz_w2
  try simp only [World.size_drewN] at hz_w2
  try simp only [World.size_alloc] at hz_w2
  try simp only [World.size_setCell] at hz_w2
  try simp only [World.size_drew] at hz_w2
  try simp only [World.size_drewN] at hz_w2
  try simp only [World.size_alloc] at hz_w2
  have hl0_w2 : w.heap.size < w2.heap.size := by omega
  have hl1_w2 : w.heap.size + 1 < w2.heap.size := by omega
  have c0_w2 : w2.cell? ⟨w.heap.size, 0, none⟩ = some (.int .i64 n) := below_cell_of hb_w2 (by first | (go_simp; done) | (refine below_cell_of (w := w1) ?_ (by first | assumption | (go_simp; done)); (repeat (first | assumption | exact Below.refl _ _ | refine below_set ?_ (by first | omega | (simp; done) | (simp; omega)) _ | refine below_drawn ?_ | refine below_drawnN ?_ _ | refine below_new ?_ _))))
  have c1_w2 : w2.cell? ⟨w.heap.size, 1, none⟩ = some (.int .i64 d) := below_cell_of hb_w2 (by first | (go_simp; done) | (refine below_cell_of (w := w1) ?_ (by first | assumption | (go_simp; done)); (repeat (first | assumption | exact Below.refl _ _ | refine below_set ?_ (by first | omega | (simp; done) | (simp; omega)) _ | refine below_drawn ?_ | refine below_drawnN ?_ _ | refine below_new ?_ _))))
  have e0_w2 : w2.cell? ⟨w.heap.size + 1, 0, none⟩ = some (.int .i64 n) := below_cell_of hb_w2 (by first | (go_simp; done) | (refine below_cell_of (w := w1) ?_ (by first | assumption | (go_simp; done)); (repeat (first | assumption | exact Below.refl _ _ | refine below_set ?_ (by first | omega | (simp; done) | (simp; omega)) _ | refine below_drawn ?_ | refine below_drawnN ?_ _ | refine below_new ?_ _))))
  have e1_w2 : w2.cell? ⟨w.heap.size + 1, 1, none⟩ = some (.int .i64 d) := below_cell_of hb_w2 (by first | (go_simp; done) | (refine below_cell_of (w := w1) ?_ (by first | assumption | (go_simp; done)); (repeat (first | assumption | exact Below.refl _ _ | refine below_set ?_ (by first | omega | (simp; done) | (simp; omega)) _ | refine below_drawn ?_ | refine below_drawnN ?_ _ | refine below_new ?_ _))))
  refine hK.out _ _ ?_ (fun hHeld => ?_)
  · exact ⟨by first | assumption | (go_simp; done), by first | assumption | (go_simp; done), by first | assumption | (go_simp; done), by first | assumption | (go_simp; done), by (repeat (first | assumption | exact Below.refl _ _ | refine below_set ?_ (by first | omega | (simp; done) | (simp; omega)) _ | refine below_drawn ?_ | refine below_drawnN ?_ _ | refine below_new ?_ _))⟩
  clear hK K
  try go_simp
  refine wpAnyH_take (i := 11) (v := ?_) rfl (by kernel_rfl) (by kernel_rfl) (by kernel_rfl) (fun _ _ _ h => h) (Or.inl ⟨by rfl, ?_⟩) hHeld ?_
  rotate_left
  · intro wS hSw; obtain ⟨hS0, hS1, hS2, hS3, hS4⟩ := hSw; go_simp; (try exact eq_two _ _ _ _ _); try with_reducible rfl
  try go_simp
  refine wpAnyH_take (i := 12) (v := ?_) rfl (by kernel_rfl) (by kernel_rfl) (by kernel_rfl) (fun _ _ _ h => h) (Or.inl ⟨by rfl, ?_⟩) hHeld ?_
  rotate_left
  · intro wS hSw; obtain ⟨hS0, hS1, hS2, hS3, hS4⟩ := hSw; go_simp; (try exact eq_two _ _ _ _ _); try with_reducible rfl
  try go_simp
  refine wpAnyH_take (i := 13) (v := ?_) rfl (by kernel_rfl) (by kernel_rfl) (by kernel_rfl) (fun _ _ _ h => h) (Or.inl ⟨by rfl, ?_⟩) hHeld ?_
  rotate_left
  · intro wS hSw; obtain ⟨hS0, hS1, hS2, hS3, hS4⟩ := hSw; go_simp; (try exact eq_two _ _ _ _ _); try with_reducible rfl
  try go_simp
  refine wpAnyH_done (by kernel_rfl) ?_ _
  obtain ⟨g0, g1, g2, g3, hBW⟩ := hHeld
  go_wp2
  go_ret
  exact ⟨rfl, hBW⟩
theorem rvalid_or (n d : Int) : Rt.valid n d = (Rt.fits n d && decide (Int.gcd n d = 1)) := rfl
theorem valid_any (n d : Int) (w : World) (k : n ≤ 9223372036854775807) : Calls Try.prog 23 #[.agg #[.int .i64 n, .int .i64 d]] w fun e w' => e = .returned (.bool (Rt.valid n d)) ∧ Below w.heap.size w w' := by
  by_cases h : n < -1000000000
  · have hv : Rt.valid n d = false := by
      cases hv : Rt.valid n d with
      | false => rfl
      | true => have := Rt.valid_bd hv; omega
    rw [hv]
    exact valid_low n d w h
  · cases hf : Rt.fits n d with
    | false =>
      have hv : Rt.valid n d = false := by unfold Rt.valid; rw [hf]; rfl
      rw [hv]
      exact valid_unfit n d w (by omega) k hf
    | true =>
      have hv : Rt.valid n d = ((Rat.divInt n d).num == n && ((Rat.divInt n d).den : Int) == d) := by
        unfold Rt.valid
        rw [hf, Bool.true_and, Bool.eq_iff_iff]
        simp only [decide_eq_true_eq, Bool.and_eq_true, beq_iff_eq]
        exact (lowest_iff hf).symm
      rw [hv]
      exact valid_fit n d w _ _ hf rfl rfl
set_option maxHeartbeats 1000000 in
theorem new_bad (n d : Int) (w : World) (h : n < -1000000000000 ∨ 1000000000000 < n ∨ d < -1000000000000 ∨ 1000000000000 < d) : Calls Try.prog 11 #[.int .i64 n, .int .i64 d] w fun e w' => e = .returned (.tuple #[.agg #[.int .i64 0, .int .i64 0], .int .i64 1]) ∧ Below w.heap.size w w' := by
  have H := Lib.hid h
  clear h
  by_cases k1 : n < -1000000000000
  · go_enter Try.func11, Try.ntmps11
    go_wp2
    exact bodyPost_ret (v := .tuple #[.agg #[.int .i64 0, .int .i64 0], .int .i64 1]) (by simp [results, Try.results11, go_sem]) rfl ⟨rfl, by (repeat (first | assumption | exact Below.refl _ _ | refine below_set ?_ (by first | omega | (simp; done) | (simp; omega)) _ | refine below_drawn ?_ | refine below_drawnN ?_ _ | refine below_new ?_ _))⟩
  · by_cases k2 : 1000000000000 < n
    · go_enter Try.func11, Try.ntmps11
      go_wp2
      exact bodyPost_ret (v := .tuple #[.agg #[.int .i64 0, .int .i64 0], .int .i64 1]) (by simp [results, Try.results11, go_sem]) rfl ⟨rfl, by (repeat (first | assumption | exact Below.refl _ _ | refine below_set ?_ (by first | omega | (simp; done) | (simp; omega)) _ | refine below_drawn ?_ | refine below_drawnN ?_ _ | refine below_new ?_ _))⟩
    · by_cases k3 : d < -1000000000000
      · go_enter Try.func11, Try.ntmps11
        go_wp2
        exact bodyPost_ret (v := .tuple #[.agg #[.int .i64 0, .int .i64 0], .int .i64 1]) (by simp [results, Try.results11, go_sem]) rfl ⟨rfl, by (repeat (first | assumption | exact Below.refl _ _ | refine below_set ?_ (by first | omega | (simp; done) | (simp; omega)) _ | refine below_drawn ?_ | refine below_drawnN ?_ _ | refine below_new ?_ _))⟩
      · have k4 : 1000000000000 < d := by have := H.out; omega
        go_enter Try.func11, Try.ntmps11
        go_wp2
        exact bodyPost_ret (v := .tuple #[.agg #[.int .i64 0, .int .i64 0], .int .i64 1]) (by simp [results, Try.results11, go_sem]) rfl ⟨rfl, by (repeat (first | assumption | exact Below.refl _ _ | refine below_set ?_ (by first | omega | (simp; done) | (simp; omega)) _ | refine below_drawn ?_ | refine below_drawnN ?_ _ | refine below_new ?_ _))⟩
set_option maxHeartbeats 1000000 in
theorem new_null (n d : Int) (w : World) (h1 : -1000000000000 ≤ n) (h2 : n ≤ 1000000000000) (h : d = 0) : Calls Try.prog 11 #[.int .i64 n, .int .i64 d] w fun e w' => e = .returned (.tuple #[.agg #[.int .i64 0, .int .i64 0], .int .i64 14]) ∧ Below w.heap.size w w' := by
  go_enter Try.func11, Try.ntmps11
  go_wp2
  exact bodyPost_ret (v := .tuple #[.agg #[.int .i64 0, .int .i64 0], .int .i64 14]) (by simp [results, Try.results11, go_sem]) rfl ⟨rfl, by (repeat (first | assumption | exact Below.refl _ _ | refine below_set ?_ (by first | omega | (simp; done) | (simp; omega)) _ | refine below_drawn ?_ | refine below_drawnN ?_ _ | refine below_new ?_ _))⟩
set_option maxHeartbeats 1000000 in
theorem new_good (n d x y z : Int) (w : World) (h1 : -1000000000000 ≤ n) (h2 : n ≤ 1000000000000) (h3 : -1000000000000 ≤ d) (h4 : d ≤ 1000000000000) (h : d ≠ 0) (hr : Rt.red n d = (x, y, z)) : Calls Try.prog 11 #[.int .i64 n, .int .i64 d] w fun e w' => e = .returned (.tuple #[.agg #[.int .i64 x, .int .i64 y], .int .i64 z]) ∧ Below w.heap.size w w' := by
  have HR := Lib.hid hr
  clear hr
  go_enter Try.func11, Try.ntmps11
  go_wp2_with fail
  refine (checked_any n d _ (by omega) (by omega) (by omega) (by omega) h).mono ?_
  rw [HR.out]
  rintro e w1 ⟨rfl, hb_w1⟩
  have hB_w1 : Below w.heap.size w w1 := below_on (by (repeat (first | assumption | exact Below.refl _ _ | refine below_set ?_ (by first | omega | (simp; done) | (simp; omega)) _ | refine below_drawn ?_ | refine below_drawnN ?_ _ | refine below_new ?_ _))) hb_w1
  have hz_w1 := hb_w1.size
  try simp only [World.size_setCell] at hz_w1
  try simp only [World.size_drew] at hz_w1
  try simp only [World.size_drewN] at hz_w1
  try simp only [World.size_alloc] at hz_w1
  try simp only [World.size_setCell] at hz_w1
  try simp only [World.size_drew] at hz_w1
  try simp only [World.size_drewN] at hz_w1
  try simp only [World.size_alloc] at hz_w1
  have hl0_w1 : w.heap.size < w1.heap.size := by omega
  have d0_w1 : w1.cell? ⟨w.heap.size, 0, none⟩ = some (.int .i64 0) := below_cell_of hb_w1 (by first | (go_simp; done) | (refine below_cell_of (w := w) ?_ (by first | assumption | (go_simp; done)); (repeat (first | assumption | exact Below.refl _ _ | refine below_set ?_ (by first | omega | (simp; done) | (simp; omega)) _ | refine below_drawn ?_ | refine below_drawnN ?_ _ | refine below_new ?_ _))))
  have fzd0_w1 : w1.frozen? ⟨w.heap.size, 0, none⟩ = false := below_frozen_of hb_w1 (by first | omega | (simp; done) | (simp; omega)) (by first | (go_simp; done))
  have d1_w1 : w1.cell? ⟨w.heap.size, 1, none⟩ = some (.int .i64 0) := below_cell_of hb_w1 (by first | (go_simp; done) | (refine below_cell_of (w := w) ?_ (by first | assumption | (go_simp; done)); (repeat (first | assumption | exact Below.refl _ _ | refine below_set ?_ (by first | omega | (simp; done) | (simp; omega)) _ | refine below_drawn ?_ | refine below_drawnN ?_ _ | refine below_new ?_ _))))
  have fzd1_w1 : w1.frozen? ⟨w.heap.size, 1, none⟩ = false := below_frozen_of hb_w1 (by first | omega | (simp; done) | (simp; omega)) (by first | (go_simp; done))
  go_wp2
  exact bodyPost_ret (v := .tuple #[.agg #[.int .i64 x, .int .i64 y], .int .i64 z]) (by simp [results, Try.results11, go_sem, d0_w1, d1_w1]) rfl ⟨rfl, by (repeat (first | assumption | exact Below.refl _ _ | refine below_set ?_ (by first | omega | (simp; done) | (simp; omega)) _ | refine below_drawn ?_ | refine below_drawnN ?_ _ | refine below_new ?_ _))⟩
theorem new_any (n d : Int) (w : World) : Calls Try.prog 11 #[.int .i64 n, .int .i64 d] w fun e w' => e = .returned (.tuple #[.agg #[.int .i64 (Rt.new n d).1, .int .i64 (Rt.new n d).2.1], .int .i64 (Rt.new n d).2.2]) ∧ Below w.heap.size w w' := by
  by_cases h : n < -1000000000000 ∨ 1000000000000 < n ∨ d < -1000000000000 ∨ 1000000000000 < d
  · have e1 : Rt.new n d = (0, 0, 1) := by unfold Rt.new; rw [if_pos h]
    rw [e1]
    exact new_bad n d w h
  · by_cases hd : d = 0
    · have e1 : Rt.new n d = (0, 0, 14) := Rt.new_zero (by omega) (by omega) hd
      rw [e1]
      exact new_null n d w (by omega) (by omega) hd
    · have e1 : Rt.new n d = Rt.red n d := Rt.new_red (by omega) (by omega) (by omega) (by omega) hd
      rw [e1]
      exact new_good n d _ _ _ w (by omega) (by omega) (by omega) (by omega) hd rfl
end Go.Proofs.Ytjnjokkhkfdaiaa
