/- Package ratio: whether a fraction fits, and its lowest terms. -/
import Derived.Test.YtjnjokkhkfdaiaaRatWalk
import Derived.Test.YtjnjokkhkfdaiaaRatLaws
namespace Go.Proofs.Ytjnjokkhkfdaiaa
open Go.RowKit

theorem fits_any (n d : Int) (w : World) (h : -9000000000000000000 ≤ n) (k : n ≤ 9223372036854775807) : Calls Try.prog 37 #[.agg #[.int .i64 n, .int .i64 d]] w fun e w' => e = .returned (.bool (Rt.fits n d)) ∧ Below w.heap.size w w' := by
  by_cases hs : 0 ≤ n
  · go_enter Try.func37, Try.ntmps37
    go_wp2
    all_goals (go_ret; refine ⟨ret_bool ?_, below_new (Below.refl _ _) _⟩; rw [Bool.eq_iff_iff]; simp [Rt.fits]; omega)
  · go_enter Try.func37, Try.ntmps37
    go_wp2
    all_goals (go_ret; refine ⟨ret_bool ?_, below_new (Below.refl _ _) _⟩; rw [Bool.eq_iff_iff]; simp [Rt.fits]; omega)
set_option maxHeartbeats 1000000 in
set_option maxRecDepth 100000 in
theorem reduce_pp (n d g x y : Int) (w : World) (h0 : 0 ≤ n) (h1 : n ≤ 9000000000000000000) (h2 : 0 < d) (h3 : d ≤ 9000000000000000000) (hg : (Int.gcd n d : Int) = g) (hg0 : 0 < g) (hg1 : g ≤ 9000000000000000000) (hx : IntKind.i64.wrap (n.tdiv g) = x) (hy : IntKind.i64.wrap (d.tdiv g) = y) :
    Calls Try.prog 38 #[.agg #[.int .i64 n, .int .i64 d]] w fun e w' => e = .returned (.agg #[.int .i64 x, .int .i64 y]) ∧ Below w.heap.size w w' := by
  have hne : ¬ g = 0 := by omega
  have hg' : (Int.gcd n d : Int) = g := by exact hg
  have HG := Lib.hid hg'
  have HX := Lib.hid hx
  have HY := Lib.hid hy
  clear hg hg' hx hy
  go_enter Try.func38, Try.ntmps38
  go_wp2_with fail
  refine (divisor_any _ n d _ (Nat.le_refl _) (by omega) (by omega) (by omega) (by omega)).mono ?_
  rw [HG.out]
  rintro e w1 ⟨rfl, rfl⟩
  go_wp2
  refine wp_region_held_drew (S := (fun W => W.cell? ⟨w.heap.size, 0, none⟩ = some (.int .i64 n) ∧ W.cell? ⟨w.heap.size, 1, none⟩ = some (.int .i64 d))) (by kernel_rfl) ?_ (fun hHeld => ?_)
  · exact ⟨by go_simp, by go_simp⟩
  refine wpAnyH_take (i := 0) (v := ?_) rfl (by kernel_rfl) (by kernel_rfl) (by kernel_rfl) (fun _ _ _ h => h) (Or.inl ⟨by rfl, ?_⟩) hHeld ?_
  rotate_left
  · intro wS hSw; obtain ⟨hS0, hS1⟩ := hSw; go_simp; (try simp only [HX.out]); (try simp only [HY.out]); try with_reducible rfl
  try go_simp
  refine wpAnyH_take (i := 1) (v := ?_) rfl (by kernel_rfl) (by kernel_rfl) (by kernel_rfl) (fun _ _ _ h => h) (Or.inl ⟨by rfl, ?_⟩) hHeld ?_
  rotate_left
  · intro wS hSw; obtain ⟨hS0, hS1⟩ := hSw; go_simp; (try simp only [HX.out]); (try simp only [HY.out]); try with_reducible rfl
  try go_simp
  refine wpAnyH_take (i := 2) (v := ?_) rfl (by kernel_rfl) (by kernel_rfl) (by kernel_rfl) (fun _ _ _ h => h) (Or.inl ⟨by rfl, ?_⟩) hHeld ?_
  rotate_left
  · intro wS hSw; obtain ⟨hS0, hS1⟩ := hSw; go_simp; (try simp only [HX.out]); (try simp only [HY.out]); try with_reducible rfl
  try go_simp
  refine wpAnyH_take (i := 3) (v := ?_) rfl (by kernel_rfl) (by kernel_rfl) (by kernel_rfl) (fun _ _ _ h => h) (Or.inl ⟨by rfl, ?_⟩) hHeld ?_
  rotate_left
  · intro wS hSw; obtain ⟨hS0, hS1⟩ := hSw; go_simp; (try simp only [HX.out]); (try simp only [HY.out]); try with_reducible rfl
  try go_simp
  refine wpAnyH_take (i := 4) (v := ?_) rfl (by kernel_rfl) (by kernel_rfl) (by kernel_rfl) (fun _ _ _ h => h) (Or.inl ⟨by rfl, ?_⟩) hHeld ?_
  rotate_left
  · intro wS hSw; obtain ⟨hS0, hS1⟩ := hSw; go_simp; (try simp only [HX.out]); (try simp only [HY.out]); try with_reducible rfl
  try go_simp
  refine wpAnyH_take (i := 5) (v := ?_) rfl (by kernel_rfl) (by kernel_rfl) (by kernel_rfl) (fun _ _ _ h => h) (Or.inl ⟨by rfl, ?_⟩) hHeld ?_
  rotate_left
  · intro wS hSw; obtain ⟨hS0, hS1⟩ := hSw; go_simp; (try simp only [HX.out]); (try simp only [HY.out]); try with_reducible rfl
  try go_simp
  refine wpAnyH_take (i := 6) (v := ?_) rfl (by kernel_rfl) (by kernel_rfl) (by kernel_rfl) (fun _ _ _ h => h) (Or.inl ⟨by rfl, ?_⟩) hHeld ?_
  rotate_left
  · intro wS hSw; obtain ⟨hS0, hS1⟩ := hSw; go_simp; (try simp only [HX.out]); (try simp only [HY.out]); try with_reducible rfl
  try go_simp
  refine wpAnyH_take (i := 7) (v := ?_) rfl (by kernel_rfl) (by kernel_rfl) (by kernel_rfl) (fun _ _ _ h => h) (Or.inl ⟨by rfl, ?_⟩) hHeld ?_
  rotate_left
  · intro wS hSw; obtain ⟨hS0, hS1⟩ := hSw; go_simp; (try simp only [HX.out]); (try simp only [HY.out]); try with_reducible rfl
  try go_simp
  refine wpAnyH_take (i := 8) (v := ?_) rfl (by kernel_rfl) (by kernel_rfl) (by kernel_rfl) (fun _ _ _ h => h) (Or.inl ⟨by rfl, ?_⟩) hHeld ?_
  rotate_left
  · intro wS hSw; obtain ⟨hS0, hS1⟩ := hSw; go_simp; (try simp only [HX.out]); (try simp only [HY.out]); try with_reducible rfl
  try go_simp
  refine wpAnyH_take (i := 9) (v := ?_) rfl (by kernel_rfl) (by kernel_rfl) (by kernel_rfl) (fun _ _ _ h => h) (Or.inl ⟨by rfl, ?_⟩) hHeld ?_
  rotate_left
  · intro wS hSw; obtain ⟨hS0, hS1⟩ := hSw; go_simp; (try simp only [HX.out]); (try simp only [HY.out]); try with_reducible rfl
  try go_simp
  refine wpAnyH_take (i := 10) (v := ?_) rfl (by kernel_rfl) (by kernel_rfl) (by kernel_rfl) (fun _ _ _ h => h) (Or.inl ⟨by rfl, ?_⟩) hHeld ?_
  rotate_left
  · intro wS hSw; obtain ⟨hS0, hS1⟩ := hSw; go_simp; (try simp only [HX.out]); (try simp only [HY.out]); try with_reducible rfl
  try go_simp
  refine wpAnyH_take (i := 11) (v := ?_) rfl (by kernel_rfl) (by kernel_rfl) (by kernel_rfl) (fun _ _ _ h => h) (Or.inl ⟨by rfl, ?_⟩) hHeld ?_
  rotate_left
  · intro wS hSw; obtain ⟨hS0, hS1⟩ := hSw; go_simp; (try simp only [HX.out]); (try simp only [HY.out]); try with_reducible rfl
  try go_simp
  refine wpAnyH_ready (rs := [12]) (by kernel_rfl) (by simp) ?_
  refine AllReadyH.cons rfl (fun K hK => ?_) AllReadyH.nil
  go_simp
  refine hK.out _ _ ?_ (fun hHeld => ?_)
  · exact ⟨by go_simp, by go_simp⟩
  clear hK K
  try go_simp
  refine wpAnyH_done (by kernel_rfl) ?_ _
  go_wp2
  exact bodyPost_ret (v := .agg #[.int .i64 x, .int .i64 y]) (by simp [results, Try.results38, go_sem]) rfl ⟨rfl, by (repeat (first | assumption | exact Below.refl _ _ | refine below_set ?_ (by first | omega | (simp; done) | (simp; omega)) _ | refine below_drawn ?_ | refine below_drawnN ?_ _ | refine below_new ?_ _))⟩
set_option maxHeartbeats 1000000 in
set_option maxRecDepth 100000 in
theorem reduce_np (n d g x y : Int) (w : World) (h0 : -9000000000000000000 ≤ n) (h1 : n < 0) (h2 : 0 < d) (h3 : d ≤ 9000000000000000000) (hg : (Int.gcd n d : Int) = g) (hg0 : 0 < g) (hg1 : g ≤ 9000000000000000000) (hx : IntKind.i64.wrap (n.tdiv g) = x) (hy : IntKind.i64.wrap (d.tdiv g) = y) :
    Calls Try.prog 38 #[.agg #[.int .i64 n, .int .i64 d]] w fun e w' => e = .returned (.agg #[.int .i64 x, .int .i64 y]) ∧ Below w.heap.size w w' := by
  have hne : ¬ g = 0 := by omega
  have hg' : (Int.gcd (-n) d : Int) = g := by rw [← hg]; simp only [Int.neg_gcd]
  have HG := Lib.hid hg'
  have HX := Lib.hid hx
  have HY := Lib.hid hy
  clear hg hg' hx hy
  go_enter Try.func38, Try.ntmps38
  go_wp2_with fail
  refine (divisor_any _ (-n) d _ (Nat.le_refl _) (by omega) (by omega) (by omega) (by omega)).mono ?_
  rw [HG.out]
  rintro e w1 ⟨rfl, rfl⟩
  go_wp2
  refine wp_region_held_drew (S := (fun W => W.cell? ⟨w.heap.size, 0, none⟩ = some (.int .i64 n) ∧ W.cell? ⟨w.heap.size, 1, none⟩ = some (.int .i64 d))) (by kernel_rfl) ?_ (fun hHeld => ?_)
  · exact ⟨by go_simp, by go_simp⟩
  refine wpAnyH_take (i := 0) (v := ?_) rfl (by kernel_rfl) (by kernel_rfl) (by kernel_rfl) (fun _ _ _ h => h) (Or.inl ⟨by rfl, ?_⟩) hHeld ?_
  rotate_left
  · intro wS hSw; obtain ⟨hS0, hS1⟩ := hSw; go_simp; (try simp only [HX.out]); (try simp only [HY.out]); try with_reducible rfl
  try go_simp
  refine wpAnyH_take (i := 1) (v := ?_) rfl (by kernel_rfl) (by kernel_rfl) (by kernel_rfl) (fun _ _ _ h => h) (Or.inl ⟨by rfl, ?_⟩) hHeld ?_
  rotate_left
  · intro wS hSw; obtain ⟨hS0, hS1⟩ := hSw; go_simp; (try simp only [HX.out]); (try simp only [HY.out]); try with_reducible rfl
  try go_simp
  refine wpAnyH_take (i := 2) (v := ?_) rfl (by kernel_rfl) (by kernel_rfl) (by kernel_rfl) (fun _ _ _ h => h) (Or.inl ⟨by rfl, ?_⟩) hHeld ?_
  rotate_left
  · intro wS hSw; obtain ⟨hS0, hS1⟩ := hSw; go_simp; (try simp only [HX.out]); (try simp only [HY.out]); try with_reducible rfl
  try go_simp
  refine wpAnyH_take (i := 3) (v := ?_) rfl (by kernel_rfl) (by kernel_rfl) (by kernel_rfl) (fun _ _ _ h => h) (Or.inl ⟨by rfl, ?_⟩) hHeld ?_
  rotate_left
  · intro wS hSw; obtain ⟨hS0, hS1⟩ := hSw; go_simp; (try simp only [HX.out]); (try simp only [HY.out]); try with_reducible rfl
  try go_simp
  refine wpAnyH_take (i := 4) (v := ?_) rfl (by kernel_rfl) (by kernel_rfl) (by kernel_rfl) (fun _ _ _ h => h) (Or.inl ⟨by rfl, ?_⟩) hHeld ?_
  rotate_left
  · intro wS hSw; obtain ⟨hS0, hS1⟩ := hSw; go_simp; (try simp only [HX.out]); (try simp only [HY.out]); try with_reducible rfl
  try go_simp
  refine wpAnyH_take (i := 5) (v := ?_) rfl (by kernel_rfl) (by kernel_rfl) (by kernel_rfl) (fun _ _ _ h => h) (Or.inl ⟨by rfl, ?_⟩) hHeld ?_
  rotate_left
  · intro wS hSw; obtain ⟨hS0, hS1⟩ := hSw; go_simp; (try simp only [HX.out]); (try simp only [HY.out]); try with_reducible rfl
  try go_simp
  refine wpAnyH_take (i := 6) (v := ?_) rfl (by kernel_rfl) (by kernel_rfl) (by kernel_rfl) (fun _ _ _ h => h) (Or.inl ⟨by rfl, ?_⟩) hHeld ?_
  rotate_left
  · intro wS hSw; obtain ⟨hS0, hS1⟩ := hSw; go_simp; (try simp only [HX.out]); (try simp only [HY.out]); try with_reducible rfl
  try go_simp
  refine wpAnyH_take (i := 7) (v := ?_) rfl (by kernel_rfl) (by kernel_rfl) (by kernel_rfl) (fun _ _ _ h => h) (Or.inl ⟨by rfl, ?_⟩) hHeld ?_
  rotate_left
  · intro wS hSw; obtain ⟨hS0, hS1⟩ := hSw; go_simp; (try simp only [HX.out]); (try simp only [HY.out]); try with_reducible rfl
  try go_simp
  refine wpAnyH_take (i := 8) (v := ?_) rfl (by kernel_rfl) (by kernel_rfl) (by kernel_rfl) (fun _ _ _ h => h) (Or.inl ⟨by rfl, ?_⟩) hHeld ?_
  rotate_left
  · intro wS hSw; obtain ⟨hS0, hS1⟩ := hSw; go_simp; (try simp only [HX.out]); (try simp only [HY.out]); try with_reducible rfl
  try go_simp
  refine wpAnyH_take (i := 9) (v := ?_) rfl (by kernel_rfl) (by kernel_rfl) (by kernel_rfl) (fun _ _ _ h => h) (Or.inl ⟨by rfl, ?_⟩) hHeld ?_
  rotate_left
  · intro wS hSw; obtain ⟨hS0, hS1⟩ := hSw; go_simp; (try simp only [HX.out]); (try simp only [HY.out]); try with_reducible rfl
  try go_simp
  refine wpAnyH_take (i := 10) (v := ?_) rfl (by kernel_rfl) (by kernel_rfl) (by kernel_rfl) (fun _ _ _ h => h) (Or.inl ⟨by rfl, ?_⟩) hHeld ?_
  rotate_left
  · intro wS hSw; obtain ⟨hS0, hS1⟩ := hSw; go_simp; (try simp only [HX.out]); (try simp only [HY.out]); try with_reducible rfl
  try go_simp
  refine wpAnyH_take (i := 11) (v := ?_) rfl (by kernel_rfl) (by kernel_rfl) (by kernel_rfl) (fun _ _ _ h => h) (Or.inl ⟨by rfl, ?_⟩) hHeld ?_
  rotate_left
  · intro wS hSw; obtain ⟨hS0, hS1⟩ := hSw; go_simp; (try simp only [HX.out]); (try simp only [HY.out]); try with_reducible rfl
  try go_simp
  refine wpAnyH_ready (rs := [12]) (by kernel_rfl) (by simp) ?_
  refine AllReadyH.cons rfl (fun K hK => ?_) AllReadyH.nil
  go_simp
  refine hK.out _ _ ?_ (fun hHeld => ?_)
  · exact ⟨by go_simp, by go_simp⟩
  clear hK K
  try go_simp
  refine wpAnyH_done (by kernel_rfl) ?_ _
  go_wp2
  exact bodyPost_ret (v := .agg #[.int .i64 x, .int .i64 y]) (by simp [results, Try.results38, go_sem]) rfl ⟨rfl, by (repeat (first | assumption | exact Below.refl _ _ | refine below_set ?_ (by first | omega | (simp; done) | (simp; omega)) _ | refine below_drawn ?_ | refine below_drawnN ?_ _ | refine below_new ?_ _))⟩
set_option maxHeartbeats 1000000 in
set_option maxRecDepth 100000 in
theorem reduce_pn (n d g x y : Int) (w : World) (h0 : 0 ≤ n) (h1 : n ≤ 9000000000000000000) (h2 : -9000000000000000000 ≤ d) (h3 : d < 0) (hg : (Int.gcd n d : Int) = g) (hg0 : 0 < g) (hg1 : g ≤ 9000000000000000000) (hx : IntKind.i64.wrap (-(n.tdiv g)) = x) (hy : IntKind.i64.wrap (-(d.tdiv g)) = y) :
    Calls Try.prog 38 #[.agg #[.int .i64 n, .int .i64 d]] w fun e w' => e = .returned (.agg #[.int .i64 x, .int .i64 y]) ∧ Below w.heap.size w w' := by
  have hne : ¬ g = 0 := by omega
  have hg' : (Int.gcd n (-d) : Int) = g := by rw [← hg]; simp only [Int.gcd_neg]
  have HG := Lib.hid hg'
  have HX := Lib.hid hx
  have HY := Lib.hid hy
  clear hg hg' hx hy
  go_enter Try.func38, Try.ntmps38
  go_wp2_with fail
  refine (divisor_any _ n (-d) _ (Nat.le_refl _) (by omega) (by omega) (by omega) (by omega)).mono ?_
  rw [HG.out]
  rintro e w1 ⟨rfl, rfl⟩
  go_wp2
  refine wp_region_held_drew (S := (fun W => W.cell? ⟨w.heap.size, 0, none⟩ = some (.int .i64 n) ∧ W.cell? ⟨w.heap.size, 1, none⟩ = some (.int .i64 d))) (by kernel_rfl) ?_ (fun hHeld => ?_)
  · exact ⟨by go_simp, by go_simp⟩
  refine wpAnyH_take (i := 0) (v := ?_) rfl (by kernel_rfl) (by kernel_rfl) (by kernel_rfl) (fun _ _ _ h => h) (Or.inl ⟨by rfl, ?_⟩) hHeld ?_
  rotate_left
  · intro wS hSw; obtain ⟨hS0, hS1⟩ := hSw; go_simp; (try simp only [HX.out]); (try simp only [HY.out]); try with_reducible rfl
  try go_simp
  refine wpAnyH_take (i := 1) (v := ?_) rfl (by kernel_rfl) (by kernel_rfl) (by kernel_rfl) (fun _ _ _ h => h) (Or.inl ⟨by rfl, ?_⟩) hHeld ?_
  rotate_left
  · intro wS hSw; obtain ⟨hS0, hS1⟩ := hSw; go_simp; (try simp only [HX.out]); (try simp only [HY.out]); try with_reducible rfl
  try go_simp
  refine wpAnyH_take (i := 2) (v := ?_) rfl (by kernel_rfl) (by kernel_rfl) (by kernel_rfl) (fun _ _ _ h => h) (Or.inl ⟨by rfl, ?_⟩) hHeld ?_
  rotate_left
  · intro wS hSw; obtain ⟨hS0, hS1⟩ := hSw; go_simp; (try simp only [HX.out]); (try simp only [HY.out]); try with_reducible rfl
  try go_simp
  refine wpAnyH_take (i := 3) (v := ?_) rfl (by kernel_rfl) (by kernel_rfl) (by kernel_rfl) (fun _ _ _ h => h) (Or.inl ⟨by rfl, ?_⟩) hHeld ?_
  rotate_left
  · intro wS hSw; obtain ⟨hS0, hS1⟩ := hSw; go_simp; (try simp only [HX.out]); (try simp only [HY.out]); try with_reducible rfl
  try go_simp
  refine wpAnyH_take (i := 4) (v := ?_) rfl (by kernel_rfl) (by kernel_rfl) (by kernel_rfl) (fun _ _ _ h => h) (Or.inl ⟨by rfl, ?_⟩) hHeld ?_
  rotate_left
  · intro wS hSw; obtain ⟨hS0, hS1⟩ := hSw; go_simp; (try simp only [HX.out]); (try simp only [HY.out]); try with_reducible rfl
  try go_simp
  refine wpAnyH_take (i := 5) (v := ?_) rfl (by kernel_rfl) (by kernel_rfl) (by kernel_rfl) (fun _ _ _ h => h) (Or.inl ⟨by rfl, ?_⟩) hHeld ?_
  rotate_left
  · intro wS hSw; obtain ⟨hS0, hS1⟩ := hSw; go_simp; (try simp only [HX.out]); (try simp only [HY.out]); try with_reducible rfl
  try go_simp
  refine wpAnyH_take (i := 6) (v := ?_) rfl (by kernel_rfl) (by kernel_rfl) (by kernel_rfl) (fun _ _ _ h => h) (Or.inl ⟨by rfl, ?_⟩) hHeld ?_
  rotate_left
  · intro wS hSw; obtain ⟨hS0, hS1⟩ := hSw; go_simp; (try simp only [HX.out]); (try simp only [HY.out]); try with_reducible rfl
  try go_simp
  refine wpAnyH_take (i := 7) (v := ?_) rfl (by kernel_rfl) (by kernel_rfl) (by kernel_rfl) (fun _ _ _ h => h) (Or.inl ⟨by rfl, ?_⟩) hHeld ?_
  rotate_left
  · intro wS hSw; obtain ⟨hS0, hS1⟩ := hSw; go_simp; (try simp only [HX.out]); (try simp only [HY.out]); try with_reducible rfl
  try go_simp
  refine wpAnyH_take (i := 8) (v := ?_) rfl (by kernel_rfl) (by kernel_rfl) (by kernel_rfl) (fun _ _ _ h => h) (Or.inl ⟨by rfl, ?_⟩) hHeld ?_
  rotate_left
  · intro wS hSw; obtain ⟨hS0, hS1⟩ := hSw; go_simp; (try simp only [HX.out]); (try simp only [HY.out]); try with_reducible rfl
  try go_simp
  refine wpAnyH_take (i := 9) (v := ?_) rfl (by kernel_rfl) (by kernel_rfl) (by kernel_rfl) (fun _ _ _ h => h) (Or.inl ⟨by rfl, ?_⟩) hHeld ?_
  rotate_left
  · intro wS hSw; obtain ⟨hS0, hS1⟩ := hSw; go_simp; (try simp only [HX.out]); (try simp only [HY.out]); try with_reducible rfl
  try go_simp
  refine wpAnyH_take (i := 10) (v := ?_) rfl (by kernel_rfl) (by kernel_rfl) (by kernel_rfl) (fun _ _ _ h => h) (Or.inl ⟨by rfl, ?_⟩) hHeld ?_
  rotate_left
  · intro wS hSw; obtain ⟨hS0, hS1⟩ := hSw; go_simp; (try simp only [HX.out]); (try simp only [HY.out]); try with_reducible rfl
  try go_simp
  refine wpAnyH_take (i := 11) (v := ?_) rfl (by kernel_rfl) (by kernel_rfl) (by kernel_rfl) (fun _ _ _ h => h) (Or.inl ⟨by rfl, ?_⟩) hHeld ?_
  rotate_left
  · intro wS hSw; obtain ⟨hS0, hS1⟩ := hSw; go_simp; (try simp only [HX.out]); (try simp only [HY.out]); try with_reducible rfl
  try go_simp
  refine wpAnyH_ready (rs := [12]) (by kernel_rfl) (by simp) ?_
  refine AllReadyH.cons rfl (fun K hK => ?_) AllReadyH.nil
  go_simp
  refine hK.out _ _ ?_ (fun hHeld => ?_)
  · exact ⟨by go_simp, by go_simp⟩
  clear hK K
  try go_simp
  refine wpAnyH_done (by kernel_rfl) ?_ _
  go_wp2
  exact bodyPost_ret (v := .agg #[.int .i64 x, .int .i64 y]) (by simp [results, Try.results38, go_sem]) rfl ⟨rfl, by (repeat (first | assumption | exact Below.refl _ _ | refine below_set ?_ (by first | omega | (simp; done) | (simp; omega)) _ | refine below_drawn ?_ | refine below_drawnN ?_ _ | refine below_new ?_ _))⟩
set_option maxHeartbeats 1000000 in
set_option maxRecDepth 100000 in
theorem reduce_nn (n d g x y : Int) (w : World) (h0 : -9000000000000000000 ≤ n) (h1 : n < 0) (h2 : -9000000000000000000 ≤ d) (h3 : d < 0) (hg : (Int.gcd n d : Int) = g) (hg0 : 0 < g) (hg1 : g ≤ 9000000000000000000) (hx : IntKind.i64.wrap (-(n.tdiv g)) = x) (hy : IntKind.i64.wrap (-(d.tdiv g)) = y) :
    Calls Try.prog 38 #[.agg #[.int .i64 n, .int .i64 d]] w fun e w' => e = .returned (.agg #[.int .i64 x, .int .i64 y]) ∧ Below w.heap.size w w' := by
  have hne : ¬ g = 0 := by omega
  have hg' : (Int.gcd (-n) (-d) : Int) = g := by rw [← hg]; simp only [Int.neg_gcd, Int.gcd_neg]
  have HG := Lib.hid hg'
  have HX := Lib.hid hx
  have HY := Lib.hid hy
  clear hg hg' hx hy
  go_enter Try.func38, Try.ntmps38
  go_wp2_with fail
  refine (divisor_any _ (-n) (-d) _ (Nat.le_refl _) (by omega) (by omega) (by omega) (by omega)).mono ?_
  rw [HG.out]
  rintro e w1 ⟨rfl, rfl⟩
  go_wp2
  refine wp_region_held_drew (S := (fun W => W.cell? ⟨w.heap.size, 0, none⟩ = some (.int .i64 n) ∧ W.cell? ⟨w.heap.size, 1, none⟩ = some (.int .i64 d))) (by kernel_rfl) ?_ (fun hHeld => ?_)
  · exact ⟨by go_simp, by go_simp⟩
  refine wpAnyH_take (i := 0) (v := ?_) rfl (by kernel_rfl) (by kernel_rfl) (by kernel_rfl) (fun _ _ _ h => h) (Or.inl ⟨by rfl, ?_⟩) hHeld ?_
  rotate_left
  · intro wS hSw; obtain ⟨hS0, hS1⟩ := hSw; go_simp; (try simp only [HX.out]); (try simp only [HY.out]); try with_reducible rfl
  try go_simp
  refine wpAnyH_take (i := 1) (v := ?_) rfl (by kernel_rfl) (by kernel_rfl) (by kernel_rfl) (fun _ _ _ h => h) (Or.inl ⟨by rfl, ?_⟩) hHeld ?_
  rotate_left
  · intro wS hSw; obtain ⟨hS0, hS1⟩ := hSw; go_simp; (try simp only [HX.out]); (try simp only [HY.out]); try with_reducible rfl
  try go_simp
  refine wpAnyH_take (i := 2) (v := ?_) rfl (by kernel_rfl) (by kernel_rfl) (by kernel_rfl) (fun _ _ _ h => h) (Or.inl ⟨by rfl, ?_⟩) hHeld ?_
  rotate_left
  · intro wS hSw; obtain ⟨hS0, hS1⟩ := hSw; go_simp; (try simp only [HX.out]); (try simp only [HY.out]); try with_reducible rfl
  try go_simp
  refine wpAnyH_take (i := 3) (v := ?_) rfl (by kernel_rfl) (by kernel_rfl) (by kernel_rfl) (fun _ _ _ h => h) (Or.inl ⟨by rfl, ?_⟩) hHeld ?_
  rotate_left
  · intro wS hSw; obtain ⟨hS0, hS1⟩ := hSw; go_simp; (try simp only [HX.out]); (try simp only [HY.out]); try with_reducible rfl
  try go_simp
  refine wpAnyH_take (i := 4) (v := ?_) rfl (by kernel_rfl) (by kernel_rfl) (by kernel_rfl) (fun _ _ _ h => h) (Or.inl ⟨by rfl, ?_⟩) hHeld ?_
  rotate_left
  · intro wS hSw; obtain ⟨hS0, hS1⟩ := hSw; go_simp; (try simp only [HX.out]); (try simp only [HY.out]); try with_reducible rfl
  try go_simp
  refine wpAnyH_take (i := 5) (v := ?_) rfl (by kernel_rfl) (by kernel_rfl) (by kernel_rfl) (fun _ _ _ h => h) (Or.inl ⟨by rfl, ?_⟩) hHeld ?_
  rotate_left
  · intro wS hSw; obtain ⟨hS0, hS1⟩ := hSw; go_simp; (try simp only [HX.out]); (try simp only [HY.out]); try with_reducible rfl
  try go_simp
  refine wpAnyH_take (i := 6) (v := ?_) rfl (by kernel_rfl) (by kernel_rfl) (by kernel_rfl) (fun _ _ _ h => h) (Or.inl ⟨by rfl, ?_⟩) hHeld ?_
  rotate_left
  · intro wS hSw; obtain ⟨hS0, hS1⟩ := hSw; go_simp; (try simp only [HX.out]); (try simp only [HY.out]); try with_reducible rfl
  try go_simp
  refine wpAnyH_take (i := 7) (v := ?_) rfl (by kernel_rfl) (by kernel_rfl) (by kernel_rfl) (fun _ _ _ h => h) (Or.inl ⟨by rfl, ?_⟩) hHeld ?_
  rotate_left
  · intro wS hSw; obtain ⟨hS0, hS1⟩ := hSw; go_simp; (try simp only [HX.out]); (try simp only [HY.out]); try with_reducible rfl
  try go_simp
  refine wpAnyH_take (i := 8) (v := ?_) rfl (by kernel_rfl) (by kernel_rfl) (by kernel_rfl) (fun _ _ _ h => h) (Or.inl ⟨by rfl, ?_⟩) hHeld ?_
  rotate_left
  · intro wS hSw; obtain ⟨hS0, hS1⟩ := hSw; go_simp; (try simp only [HX.out]); (try simp only [HY.out]); try with_reducible rfl
  try go_simp
  refine wpAnyH_take (i := 9) (v := ?_) rfl (by kernel_rfl) (by kernel_rfl) (by kernel_rfl) (fun _ _ _ h => h) (Or.inl ⟨by rfl, ?_⟩) hHeld ?_
  rotate_left
  · intro wS hSw; obtain ⟨hS0, hS1⟩ := hSw; go_simp; (try simp only [HX.out]); (try simp only [HY.out]); try with_reducible rfl
  try go_simp
  refine wpAnyH_take (i := 10) (v := ?_) rfl (by kernel_rfl) (by kernel_rfl) (by kernel_rfl) (fun _ _ _ h => h) (Or.inl ⟨by rfl, ?_⟩) hHeld ?_
  rotate_left
  · intro wS hSw; obtain ⟨hS0, hS1⟩ := hSw; go_simp; (try simp only [HX.out]); (try simp only [HY.out]); try with_reducible rfl
  try go_simp
  refine wpAnyH_take (i := 11) (v := ?_) rfl (by kernel_rfl) (by kernel_rfl) (by kernel_rfl) (fun _ _ _ h => h) (Or.inl ⟨by rfl, ?_⟩) hHeld ?_
  rotate_left
  · intro wS hSw; obtain ⟨hS0, hS1⟩ := hSw; go_simp; (try simp only [HX.out]); (try simp only [HY.out]); try with_reducible rfl
  try go_simp
  refine wpAnyH_ready (rs := [12]) (by kernel_rfl) (by simp) ?_
  refine AllReadyH.cons rfl (fun K hK => ?_) AllReadyH.nil
  go_simp
  refine hK.out _ _ ?_ (fun hHeld => ?_)
  · exact ⟨by go_simp, by go_simp⟩
  clear hK K
  try go_simp
  refine wpAnyH_done (by kernel_rfl) ?_ _
  go_wp2
  exact bodyPost_ret (v := .agg #[.int .i64 x, .int .i64 y]) (by simp [results, Try.results38, go_sem]) rfl ⟨rfl, by (repeat (first | assumption | exact Below.refl _ _ | refine below_set ?_ (by first | omega | (simp; done) | (simp; omega)) _ | refine below_drawn ?_ | refine below_drawnN ?_ _ | refine below_new ?_ _))⟩

theorem wrap_div (a b : Int) (h0 : -9000000000000000000 ≤ a) (h1 : a ≤ 9000000000000000000) : IntKind.i64.wrap (a.tdiv b) = a.tdiv b := by
  have h : (a.tdiv b).natAbs ≤ a.natAbs := by rw [Int.natAbs_tdiv]; exact Nat.div_le_self _ _
  exact IntWalk.i64_in _ ⟨by omega, by omega⟩
theorem reduce_any (n d : Int) (w : World) (h0 : -9000000000000000000 ≤ n) (h1 : n ≤ 9000000000000000000) (h2 : -9000000000000000000 ≤ d) (h3 : d ≤ 9000000000000000000) (hd : d ≠ 0) :
    Calls Try.prog 38 #[.agg #[.int .i64 n, .int .i64 d]] w fun e w' => e = .returned (.agg #[.int .i64 (Rat.divInt n d).num, .int .i64 ((Rat.divInt n d).den : Nat)]) ∧ Below w.heap.size w w' := by
  obtain ⟨e1, e2⟩ := Rt.red_num (n := n) hd
  have hg0 : 0 < Int.gcd n d := Int.gcd_pos_of_ne_zero_right _ hd
  have hg1 : Int.gcd n d ≤ d.natAbs := Int.gcd_le_natAbs_right _ hd
  by_cases hn : 0 ≤ n
  · by_cases hs : 0 < d
    · rw [if_neg (by omega)] at e1 e2
      rw [e1, e2]
      exact reduce_pp n d (Int.gcd n d : Nat) _ _ w hn h1 hs h3 rfl (by omega) (by omega) (wrap_div _ _ h0 h1) (wrap_div _ _ h2 h3)
    · rw [if_pos (by omega)] at e1 e2
      rw [e1, e2]
      exact reduce_pn n d (Int.gcd n d : Nat) _ _ w hn h1 h2 (by omega) rfl (by omega) (by omega) (by rw [← Int.tdiv_neg]; exact wrap_div _ _ h0 h1) (by rw [← Int.tdiv_neg]; exact wrap_div _ _ h2 h3)
  · by_cases hs : 0 < d
    · rw [if_neg (by omega)] at e1 e2
      rw [e1, e2]
      exact reduce_np n d (Int.gcd n d : Nat) _ _ w h0 (by omega) hs h3 rfl (by omega) (by omega) (wrap_div _ _ h0 h1) (wrap_div _ _ h2 h3)
    · rw [if_pos (by omega)] at e1 e2
      rw [e1, e2]
      exact reduce_nn n d (Int.gcd n d : Nat) _ _ w h0 (by omega) h2 (by omega) rfl (by omega) (by omega) (by rw [← Int.tdiv_neg]; exact wrap_div _ _ h0 h1) (by rw [← Int.tdiv_neg]; exact wrap_div _ _ h2 h3)
theorem red_in {n d : Int} (h0 : -9000000000000000000 ≤ n) (h1 : n ≤ 9000000000000000000) (h2 : -9000000000000000000 ≤ d) (h3 : d ≤ 9000000000000000000) (hd : d ≠ 0) :
    -9000000000000000000 ≤ (Rat.divInt n d).num ∧ (Rat.divInt n d).num ≤ 9000000000000000000 ∧ ((Rat.divInt n d).den : Int) ≤ 9000000000000000000 := by
  obtain ⟨e1, e2⟩ := Rt.red_num (n := n) hd
  have hh : ∀ a b : Int, (a.tdiv b).natAbs ≤ a.natAbs := fun a b => by rw [Int.natAbs_tdiv]; exact Nat.div_le_self _ _
  have k1 := hh n (if d < 0 then -(Int.gcd n d : Int) else (Int.gcd n d : Int))
  have k2 := hh d (if d < 0 then -(Int.gcd n d : Int) else (Int.gcd n d : Int))
  rw [← e1] at k1
  rw [← e2] at k2
  omega
set_option maxHeartbeats 1000000 in
set_option maxRecDepth 100000 in
theorem checked_core (n d x y : Int) (b : Bool) (w : World) (h0 : -9000000000000000000 ≤ n) (h1 : n ≤ 9000000000000000000) (h2 : -9000000000000000000 ≤ d) (h3 : d ≤ 9000000000000000000) (hd : d ≠ 0) (hx : (Rat.divInt n d).num = x) (hy : ((Rat.divInt n d).den : Int) = y) (hx0 : -9000000000000000000 ≤ x) (hx1 : x ≤ 9000000000000000000) (hf : Rt.fits x y = b) :
    Calls Try.prog 28 #[.agg #[.int .i64 n, .int .i64 d]] w fun e w' => e = .returned (.tuple #[.agg #[.int .i64 (if b = true then x else 0), .int .i64 (if b = true then y else 0)], .int .i64 (if b = true then 0 else 3)]) ∧ Below w.heap.size w w' := by
  have HX := Lib.hid hx
  have HY := Lib.hid hy
  have HF := Lib.hid hf
  clear hx hy hf
  go_enter Try.func28, Try.ntmps28
  go_wp2_with fail
  refine (reduce_any n d _ h0 h1 h2 h3 hd).mono ?_
  rw [HX.out, HY.out]
  rintro e w1 ⟨rfl, hb_w1⟩
  have hB_w1 : Below w.heap.size w w1 := below_on (by (repeat (first | exact Below.refl _ _ | refine below_drawn ?_ | refine below_drawnN ?_ _ | refine below_new ?_ _))) hb_w1
  have hz_w1 := hb_w1.size
  try simp only [World.size_setCell] at hz_w1
  try simp only [World.size_drew] at hz_w1
  try simp only [World.size_drewN] at hz_w1
  try simp only [World.size_alloc] at hz_w1
  try simp only [World.size_setCell] at hz_w1
  try simp only [World.size_drew] at hz_w1
  try simp only [World.size_drewN] at hz_w1
  try simp only [World.size_alloc] at hz_w1
  have hl0_w1 : w.heap.size < w1.heap.size := by omega
  have hl1_w1 : w.heap.size + 1 < w1.heap.size := by omega
  have c0_w1 : w1.cell? ⟨w.heap.size, 0, none⟩ = some (.int .i64 n) := below_cell_of hb_w1 (by first | (go_simp; done) | (refine below_cell_of (w := w) ?_ (by first | assumption | (go_simp; done)); (repeat (first | exact Below.refl _ _ | refine below_drawn ?_ | refine below_drawnN ?_ _ | refine below_new ?_ _))))
  have fzc0_w1 : w1.frozen? ⟨w.heap.size, 0, none⟩ = false := below_frozen_of hb_w1 (by first | omega | (simp; done) | (simp; omega)) (by first | (go_simp; done))
  have c1_w1 : w1.cell? ⟨w.heap.size, 1, none⟩ = some (.int .i64 d) := below_cell_of hb_w1 (by first | (go_simp; done) | (refine below_cell_of (w := w) ?_ (by first | assumption | (go_simp; done)); (repeat (first | exact Below.refl _ _ | refine below_drawn ?_ | refine below_drawnN ?_ _ | refine below_new ?_ _))))
  have fzc1_w1 : w1.frozen? ⟨w.heap.size, 1, none⟩ = false := below_frozen_of hb_w1 (by first | omega | (simp; done) | (simp; omega)) (by first | (go_simp; done))
  have d0_w1 : w1.cell? ⟨w.heap.size + 1, 0, none⟩ = some (.int .i64 0) := below_cell_of hb_w1 (by first | (go_simp; done) | (refine below_cell_of (w := w) ?_ (by first | assumption | (go_simp; done)); (repeat (first | exact Below.refl _ _ | refine below_drawn ?_ | refine below_drawnN ?_ _ | refine below_new ?_ _))))
  have fzd0_w1 : w1.frozen? ⟨w.heap.size + 1, 0, none⟩ = false := below_frozen_of hb_w1 (by first | omega | (simp; done) | (simp; omega)) (by first | (go_simp; done))
  have d1_w1 : w1.cell? ⟨w.heap.size + 1, 1, none⟩ = some (.int .i64 0) := below_cell_of hb_w1 (by first | (go_simp; done) | (refine below_cell_of (w := w) ?_ (by first | assumption | (go_simp; done)); (repeat (first | exact Below.refl _ _ | refine below_drawn ?_ | refine below_drawnN ?_ _ | refine below_new ?_ _))))
  have fzd1_w1 : w1.frozen? ⟨w.heap.size + 1, 1, none⟩ = false := below_frozen_of hb_w1 (by first | omega | (simp; done) | (simp; omega)) (by first | (go_simp; done))
  go_wp2_with fail
  refine (fits_any x y _ (by omega) (by omega)).mono ?_
  rw [HF.out]
  rintro e w2 ⟨rfl, hb_w2⟩
  have hB_w2 : Below w.heap.size w w2 := below_on (by first | ((repeat (first | assumption | exact Below.refl _ _ | refine below_set ?_ (by first | omega | (simp; done) | (simp; omega)) _ | refine below_drawn ?_ | refine below_drawnN ?_ _ | refine below_new ?_ _)); done) | (refine below_on hB_w1 ?_; (repeat (first | assumption | exact Below.refl _ _ | refine below_set ?_ (by first | omega | (simp; done) | (simp; omega)) _ | refine below_drawn ?_ | refine below_drawnN ?_ _ | refine below_new ?_ _)))) hb_w2
  have hz_w2 := hb_w2.size
  try simp only [World.size_setCell] at hz_w2
  try simp only [World.size_drew] at hz_w2
  try simp only [World.size_drewN] at hz_w2
  try simp only [World.size_alloc] at hz_w2
  try simp only [World.size_setCell] at hz_w2
  try simp only [World.size_drew] at hz_w2
  try simp only [World.size_drewN] at hz_w2
  try simp only [World.size_alloc] at hz_w2
  have hl0_w2 : w.heap.size + 1 < w2.heap.size := by omega
  have hl1_w2 : w.heap.size < w2.heap.size := by omega
  have d0_w2 : w2.cell? ⟨w.heap.size + 1, 0, none⟩ = some (.int .i64 0) := below_cell_of hb_w2 (by first | (go_simp; done) | (refine below_cell_of (w := w1) ?_ (by first | assumption | (go_simp; done)); (repeat (first | assumption | exact Below.refl _ _ | refine below_set ?_ (by first | omega | (simp; done) | (simp; omega)) _ | refine below_drawn ?_ | refine below_drawnN ?_ _ | refine below_new ?_ _))))
  have fzd0_w2 : w2.frozen? ⟨w.heap.size + 1, 0, none⟩ = false := below_frozen_of hb_w2 (by first | omega | (simp; done) | (simp; omega)) (by first | (go_simp; done) | (refine below_frozen_of (w := w1) ?_ (by omega) (by first | assumption | (go_simp; done)); (repeat (first | assumption | exact Below.refl _ _ | refine below_set ?_ (by first | omega | (simp; done) | (simp; omega)) _ | refine below_drawn ?_ | refine below_drawnN ?_ _ | refine below_new ?_ _))))
  have d1_w2 : w2.cell? ⟨w.heap.size + 1, 1, none⟩ = some (.int .i64 0) := below_cell_of hb_w2 (by first | (go_simp; done) | (refine below_cell_of (w := w1) ?_ (by first | assumption | (go_simp; done)); (repeat (first | assumption | exact Below.refl _ _ | refine below_set ?_ (by first | omega | (simp; done) | (simp; omega)) _ | refine below_drawn ?_ | refine below_drawnN ?_ _ | refine below_new ?_ _))))
  have fzd1_w2 : w2.frozen? ⟨w.heap.size + 1, 1, none⟩ = false := below_frozen_of hb_w2 (by first | omega | (simp; done) | (simp; omega)) (by first | (go_simp; done) | (refine below_frozen_of (w := w1) ?_ (by omega) (by first | assumption | (go_simp; done)); (repeat (first | assumption | exact Below.refl _ _ | refine below_set ?_ (by first | omega | (simp; done) | (simp; omega)) _ | refine below_drawn ?_ | refine below_drawnN ?_ _ | refine below_new ?_ _))))
  have c0_w2 : w2.cell? ⟨w.heap.size, 0, none⟩ = some (.int .i64 x) := below_cell_of hb_w2 (by first | (go_simp; done) | (refine below_cell_of (w := w1) ?_ (by first | assumption | (go_simp; done)); (repeat (first | assumption | exact Below.refl _ _ | refine below_set ?_ (by first | omega | (simp; done) | (simp; omega)) _ | refine below_drawn ?_ | refine below_drawnN ?_ _ | refine below_new ?_ _))))
  have fzc0_w2 : w2.frozen? ⟨w.heap.size, 0, none⟩ = false := below_frozen_of hb_w2 (by first | omega | (simp; done) | (simp; omega)) (by first | (go_simp; done) | (refine below_frozen_of (w := w1) ?_ (by omega) (by first | assumption | (go_simp; done)); (repeat (first | assumption | exact Below.refl _ _ | refine below_set ?_ (by first | omega | (simp; done) | (simp; omega)) _ | refine below_drawn ?_ | refine below_drawnN ?_ _ | refine below_new ?_ _))))
  have c1_w2 : w2.cell? ⟨w.heap.size, 1, none⟩ = some (.int .i64 y) := below_cell_of hb_w2 (by first | (go_simp; done) | (refine below_cell_of (w := w1) ?_ (by first | assumption | (go_simp; done)); (repeat (first | assumption | exact Below.refl _ _ | refine below_set ?_ (by first | omega | (simp; done) | (simp; omega)) _ | refine below_drawn ?_ | refine below_drawnN ?_ _ | refine below_new ?_ _))))
  have fzc1_w2 : w2.frozen? ⟨w.heap.size, 1, none⟩ = false := below_frozen_of hb_w2 (by first | omega | (simp; done) | (simp; omega)) (by first | (go_simp; done) | (refine below_frozen_of (w := w1) ?_ (by omega) (by first | assumption | (go_simp; done)); (repeat (first | assumption | exact Below.refl _ _ | refine below_set ?_ (by first | omega | (simp; done) | (simp; omega)) _ | refine below_drawn ?_ | refine below_drawnN ?_ _ | refine below_new ?_ _))))
  cases b
  · go_wp2
    exact bodyPost_ret (v := .tuple #[.agg #[.int .i64 0, .int .i64 0], .int .i64 3]) (by simp [results, Try.results28, go_sem, d0_w2, d1_w2]) rfl ⟨rfl, by (repeat (first | assumption | exact Below.refl _ _ | refine below_set ?_ (by first | omega | (simp; done) | (simp; omega)) _ | refine below_drawn ?_ | refine below_drawnN ?_ _ | refine below_new ?_ _))⟩
  · go_wp2
    exact bodyPost_ret (v := .tuple #[.agg #[.int .i64 x, .int .i64 y], .int .i64 0]) (by simp [results, Try.results28, go_sem, d0_w2, d1_w2]) rfl ⟨rfl, by (repeat (first | assumption | exact Below.refl _ _ | refine below_set ?_ (by first | omega | (simp; done) | (simp; omega)) _ | refine below_drawn ?_ | refine below_drawnN ?_ _ | refine below_new ?_ _))⟩
theorem checked_any (n d : Int) (w : World) (h0 : -9000000000000000000 ≤ n) (h1 : n ≤ 9000000000000000000) (h2 : -9000000000000000000 ≤ d) (h3 : d ≤ 9000000000000000000) (hd : d ≠ 0) :
    Calls Try.prog 28 #[.agg #[.int .i64 n, .int .i64 d]] w fun e w' => e = .returned (.tuple #[.agg #[.int .i64 (Rt.red n d).1, .int .i64 (Rt.red n d).2.1], .int .i64 (Rt.red n d).2.2]) ∧ Below w.heap.size w w' := by
  have hb := red_in h0 h1 h2 h3 hd
  have hc := checked_core n d _ _ _ w h0 h1 h2 h3 hd rfl rfl hb.1 hb.2.1 rfl
  refine hc.mono ?_
  rintro e w1 ⟨rfl, hB⟩
  refine ⟨?_, hB⟩
  unfold Rt.red
  cases Rt.fits (Rat.divInt n d).num (Rat.divInt n d).den <;> rfl
end Go.Proofs.Ytjnjokkhkfdaiaa
