/- The reference of package ratio: what each function returns. -/
import Derived.Test.YtjnjokkhkfdaiaaRatArith
namespace Go.Proofs.Ytjnjokkhkfdaiaa
open Go.RowKit

theorem rfits_any (n d : Int) (w : World) : Calls Try.prog 39 #[.int .i64 n, .int .i64 d] w fun e w' => e = .returned (.bool (Rt.fits n d)) ∧ w = w' := by
  go_enter Try.func39, Try.ntmps39
  go_wp2
  all_goals (go_ret; refine ⟨ret_bool ?_, rfl⟩; rw [Bool.eq_iff_iff]; simp [Rt.fits]; omega)
theorem rvalue_any (n : Int) (w : World) : Calls Try.prog 29 #[.int .i64 n] w fun e w' => e = .returned (.bool (decide (-1000000000000 ≤ n ∧ n ≤ 1000000000000))) ∧ w = w' := by
  go_enter Try.func29, Try.ntmps29
  go_wp2
  all_goals (go_ret; refine ⟨ret_bool ?_, rfl⟩; rw [Bool.eq_iff_iff]; simp; omega)
theorem rabs_any (n : Int) (w : World) (h : -9000000000000000000 ≤ n) (k : n ≤ 9000000000000000000) : Calls Try.prog 41 #[.int .i64 n] w fun e w' => e = .returned (.int .i64 (n.natAbs : Nat)) ∧ w = w' := by
  by_cases hs : 0 ≤ n
  · go_enter Try.func41, Try.ntmps41
    go_wp2
    go_ret
    exact ⟨ret_int (by omega), rfl⟩
  · go_enter Try.func41, Try.ntmps41
    go_wp2
    go_ret
    exact ⟨ret_int (by omega), rfl⟩
theorem rdivisor_any (a b : Int) (w : World) (ha0 : 0 ≤ a) (ha1 : a ≤ 9000000000000000000) (hb0 : 0 ≤ b) (hb1 : b ≤ 9000000000000000000) :
    Calls Try.prog 40 #[.int .i64 a, .int .i64 b] w fun e w' => e = .returned (.int .i64 (Int.gcd a b : Nat)) ∧ w = w' := by
  obtain ⟨g, hg⟩ : ∃ g, Int.gcd a b = g := ⟨_, rfl⟩
  rw [hg]
  have HG := Lib.hid hg
  clear hg
  go_enter Try.func40, Try.ntmps40
  go_wp2
  go_loopw [0, 1] (fun va vb wr => ∃ x y : Int, va = .int .i64 x ∧ vb = .int .i64 y ∧ 0 ≤ x ∧ x ≤ 9000000000000000000 ∧ 0 ≤ y ∧ y ≤ 9000000000000000000 ∧ RowKit.Hid (Int.gcd x y = g) ∧ w = wr) (fun _ vb _ => (intOf vb).toNat)
  case atStart => exact ⟨a, b, rfl, rfl, ha0, ha1, hb0, hb1, HG, rfl⟩
  case round =>
    obtain ⟨x, y, rfl, rfl, hx0, hx1, hy0, hy1, HXY, rfl⟩ := hrel
    by_cases hz : y = 0
    · have hgx : (g : Int) = x := by rw [← HXY.out, hz, Int.gcd_zero]; omega
      have HGX := Lib.hid hgx
      clear hgx
      go_wp2
      go_ret
      exact ⟨ret_int HGX.out.symm, rfl⟩
    · have h0 := Int.emod_nonneg x hz
      have h1 := Int.emod_lt_of_pos x (show 0 < y by omega)
      have hst := gcd_step (b := y) hx0
      have HST := Lib.hid hst
      have H0 := Lib.hid h0
      have H1 := Lib.hid h1
      clear hst h0 h1
      go_wp2
      go_roundw
      case rel => exact ⟨y, x % y, rfl, rfl, hy0, hy1, H0.out, by have := H1.out; omega, Lib.hid (HST.out.trans HXY.out), trivial⟩
      case measure =>
        have := H0.out
        have := H1.out
        simp [intOf]
        omega
theorem ldivisor_any (a b : Int) (w : World) (ha0 : 0 ≤ a) (ha1 : a ≤ 4000000000000000000) (hb0 : 0 ≤ b) (hb1 : b ≤ 4000000000000000000) :
    Calls Try.prog 42 #[.int .i64 a, .int .i64 b] w fun e w' => e = .returned (.int .i64 (Int.gcd a b : Nat)) ∧ w = w' := by
  obtain ⟨g, hg⟩ : ∃ g, Int.gcd a b = g := ⟨_, rfl⟩
  rw [hg]
  have HG := Lib.hid hg
  clear hg
  go_enter Try.func42, Try.ntmps42
  go_wp2
  go_loopw [0, 1] (fun va vb wr => ∃ x y : Int, va = .int .i64 x ∧ vb = .int .i64 y ∧ 0 ≤ x ∧ x ≤ 4000000000000000000 ∧ 0 ≤ y ∧ y ≤ 4000000000000000000 ∧ RowKit.Hid (Int.gcd x y = g) ∧ w = wr) (fun va vb _ => (intOf va).toNat + (intOf vb).toNat)
  case atStart => exact ⟨a, b, rfl, rfl, ha0, ha1, hb0, hb1, HG, rfl⟩
  case round =>
    obtain ⟨x, y, rfl, rfl, hx0, hx1, hy0, hy1, HXY, rfl⟩ := hrel
    by_cases hzx : x = 0
    · have hgx : (g : Int) = y := by rw [← HXY.out, hzx, Int.zero_gcd]; omega
      have HGX := Lib.hid hgx
      clear hgx
      go_wp2
      go_ret
      exact ⟨ret_int HGX.out.symm, rfl⟩
    · by_cases hz : y = 0
      · have hgx : (g : Int) = x := by rw [← HXY.out, hz, Int.gcd_zero]; omega
        have HGX := Lib.hid hgx
        clear hgx
        go_wp2
        go_ret
        exact ⟨ret_int HGX.out.symm, rfl⟩
      · have hx2 : 0 < x := by omega
        have hy2 : 0 < y := by omega
        by_cases hgt : y < x
        · have h0 := Int.emod_nonneg x hz
          have h1 := Int.emod_lt_of_pos x hy2
          have hst := gcd_step (b := y) hx0
          have HST := Lib.hid hst
          have H0 := Lib.hid h0
          have H1 := Lib.hid h1
          clear hst h0 h1
          go_wp2
          go_roundw
          case rel => exact ⟨x % y, y, rfl, rfl, H0.out, by have := H1.out; omega, hy0, hy1, Lib.hid ((Int.gcd_comm _ _).trans (HST.out.trans HXY.out)), trivial⟩
          case measure =>
            have := H0.out
            have := H1.out
            simp [intOf]
            omega
        · have h0 := Int.emod_nonneg y hzx
          have h1 := Int.emod_lt_of_pos y hx2
          have hst := gcd_step (b := x) hy0
          have HST := Lib.hid hst
          have H0 := Lib.hid h0
          have H1 := Lib.hid h1
          clear hst h0 h1
          go_wp2
          go_roundw
          case rel => exact ⟨x, y % x, rfl, rfl, hx0, hx1, H0.out, by have := H1.out; omega, Lib.hid (HST.out.trans ((Int.gcd_comm _ _).trans HXY.out)), trivial⟩
          case measure =>
            have := H0.out
            have := H1.out
            simp [intOf]
            omega
set_option maxHeartbeats 1000000 in
set_option maxRecDepth 100000 in
theorem rvalid_unfit (n d : Int) (w : World) (hf : Rt.fits n d = false) : Calls Try.prog 24 #[.agg #[.int .i64 n, .int .i64 d]] w fun e w' => e = .returned (.bool false) ∧ Below w.heap.size w w' := by
  have HF := Lib.hid hf
  clear hf
  go_enter Try.func24, Try.ntmps24
  go_wp2
  refine wp_region_held_drew (S := (fun W => W.cell? ⟨w.heap.size, 0, none⟩ = some (.int .i64 n) ∧ W.cell? ⟨w.heap.size, 1, none⟩ = some (.int .i64 d) ∧ Below w.heap.size w W)) (by kernel_rfl) ?_ (fun hHeld => ?_)
  · exact ⟨by first | assumption | (go_simp; done), by first | assumption | (go_simp; done), by (repeat (first | assumption | exact Below.refl _ _ | refine below_set ?_ (by first | omega | (simp; done) | (simp; omega)) _ | refine below_drawn ?_ | refine below_drawnN ?_ _ | refine below_new ?_ _))⟩
  refine wpAnyH_take (i := 0) (v := ?_) rfl (by kernel_rfl) (by kernel_rfl) (by kernel_rfl) (fun _ _ _ h => h) (Or.inl ⟨by rfl, ?_⟩) hHeld ?_
  rotate_left
  · intro wS hSw; obtain ⟨hS0, hS1, hS2⟩ := hSw; go_simp; try with_reducible rfl
  try go_simp
  refine wpAnyH_take (i := 1) (v := ?_) rfl (by kernel_rfl) (by kernel_rfl) (by kernel_rfl) (fun _ _ _ h => h) (Or.inl ⟨by rfl, ?_⟩) hHeld ?_
  rotate_left
  · intro wS hSw; obtain ⟨hS0, hS1, hS2⟩ := hSw; go_simp; try with_reducible rfl
  try go_simp
  refine wpAnyH_take (i := 2) (v := ?_) rfl (by kernel_rfl) (by kernel_rfl) (by kernel_rfl) (fun _ _ _ h => h) (Or.inl ⟨by rfl, ?_⟩) hHeld ?_
  rotate_left
  · intro wS hSw; obtain ⟨hS0, hS1, hS2⟩ := hSw; go_simp; try with_reducible rfl
  try go_simp
  refine wpAnyH_take (i := 3) (v := ?_) rfl (by kernel_rfl) (by kernel_rfl) (by kernel_rfl) (fun _ _ _ h => h) (Or.inl ⟨by rfl, ?_⟩) hHeld ?_
  rotate_left
  · intro wS hSw; obtain ⟨hS0, hS1, hS2⟩ := hSw; go_simp; try with_reducible rfl
  try go_simp
  refine wpAnyH_ready (rs := [4]) (by kernel_rfl) (by simp) ?_
  refine AllReadyH.cons rfl (fun K hK => ?_) AllReadyH.nil
  go_simp
  refine (rfits_any n d _).mono ?_
  rw [HF.out]
  rintro e x ⟨rfl, rfl⟩
  refine hK.out _ _ ?_ (fun hHeld => ?_)
  · exact ⟨by first | assumption | (go_simp; done), by first | assumption | (go_simp; done), by (repeat (first | assumption | exact Below.refl _ _ | refine below_set ?_ (by first | omega | (simp; done) | (simp; omega)) _ | refine below_drawn ?_ | refine below_drawnN ?_ _ | refine below_new ?_ _))⟩
  clear hK K
  try go_simp
  refine wpAnyH_take (i := 5) (v := ?_) rfl (by kernel_rfl) (by kernel_rfl) (by kernel_rfl) (fun _ _ _ h => h) (Or.inl ⟨by rfl, ?_⟩) hHeld ?_
  rotate_left
  · intro wS hSw; obtain ⟨hS0, hS1, hS2⟩ := hSw; go_simp; try with_reducible rfl
  try go_simp
  refine wpAnyH_take (i := 6) (v := undef) rfl (by kernel_rfl) (by kernel_rfl) (by kernel_rfl) (fun _ _ _ h => h) (Or.inr ⟨by rfl, rfl⟩) hHeld ?_
  try go_simp
  refine wpAnyH_take (i := 7) (v := undef) rfl (by kernel_rfl) (by kernel_rfl) (by kernel_rfl) (fun _ _ _ h => h) (Or.inr ⟨by rfl, rfl⟩) hHeld ?_
  try go_simp
  refine wpAnyH_take (i := 8) (v := undef) rfl (by kernel_rfl) (by kernel_rfl) (by kernel_rfl) (fun _ _ _ h => h) (Or.inr ⟨by rfl, rfl⟩) hHeld ?_
  try go_simp
  refine wpAnyH_take (i := 9) (v := undef) rfl (by kernel_rfl) (by kernel_rfl) (by kernel_rfl) (fun _ _ _ h => h) (Or.inr ⟨by rfl, rfl⟩) hHeld ?_
  try go_simp
  refine wpAnyH_take (i := 10) (v := undef) rfl (by kernel_rfl) (by kernel_rfl) (by kernel_rfl) (fun _ _ _ h => h) (Or.inr ⟨by rfl, rfl⟩) hHeld ?_
  try go_simp
  refine wpAnyH_take (i := 11) (v := undef) rfl (by kernel_rfl) (by kernel_rfl) (by kernel_rfl) (fun _ _ _ h => h) (Or.inr ⟨by rfl, rfl⟩) hHeld ?_
  try go_simp
  refine wpAnyH_take (i := 12) (v := undef) rfl (by kernel_rfl) (by kernel_rfl) (by kernel_rfl) (fun _ _ _ h => h) (Or.inr ⟨by rfl, rfl⟩) hHeld ?_
  try go_simp
  refine wpAnyH_take (i := 13) (v := ?_) rfl (by kernel_rfl) (by kernel_rfl) (by kernel_rfl) (fun _ _ _ h => h) (Or.inl ⟨by rfl, ?_⟩) hHeld ?_
  rotate_left
  · intro wS hSw; obtain ⟨hS0, hS1, hS2⟩ := hSw; go_simp; try with_reducible rfl
  try go_simp
  refine wpAnyH_take (i := 14) (v := ?_) rfl (by kernel_rfl) (by kernel_rfl) (by kernel_rfl) (fun _ _ _ h => h) (Or.inl ⟨by rfl, ?_⟩) hHeld ?_
  rotate_left
  · intro wS hSw; obtain ⟨hS0, hS1, hS2⟩ := hSw; go_simp; try with_reducible rfl
  try go_simp
  refine wpAnyH_done (by kernel_rfl) ?_ _
  obtain ⟨g0, g1, hBW⟩ := hHeld
  go_wp2
  go_ret
  exact ⟨rfl, hBW⟩
set_option maxHeartbeats 1000000 in
set_option maxRecDepth 100000 in
theorem rvalid_fit (n d g : Int) (w : World) (hf : Rt.fits n d = true) (hg : (Int.gcd (n.natAbs : Nat) d : Int) = g) : Calls Try.prog 24 #[.agg #[.int .i64 n, .int .i64 d]] w fun e w' => e = .returned (.bool (g == 1)) ∧ Below w.heap.size w w' := by
  obtain ⟨h0, h1, h2, h3⟩ := Rt.fits_bd hf
  have HF := Lib.hid hf
  have HG := Lib.hid hg
  clear hf hg
  go_enter Try.func24, Try.ntmps24
  go_wp2
  refine wp_region_held_drew (S := (fun W => W.cell? ⟨w.heap.size, 0, none⟩ = some (.int .i64 n) ∧ W.cell? ⟨w.heap.size, 1, none⟩ = some (.int .i64 d) ∧ Below w.heap.size w W)) (by kernel_rfl) ?_ (fun hHeld => ?_)
  · exact ⟨by first | assumption | (go_simp; done), by first | assumption | (go_simp; done), by (repeat (first | assumption | exact Below.refl _ _ | refine below_set ?_ (by first | omega | (simp; done) | (simp; omega)) _ | refine below_drawn ?_ | refine below_drawnN ?_ _ | refine below_new ?_ _))⟩
  refine wpAnyH_take (i := 0) (v := ?_) rfl (by kernel_rfl) (by kernel_rfl) (by kernel_rfl) (fun _ _ _ h => h) (Or.inl ⟨by rfl, ?_⟩) hHeld ?_
  rotate_left
  · intro wS hSw; obtain ⟨hS0, hS1, hS2⟩ := hSw; go_simp; try with_reducible rfl
  try go_simp
  refine wpAnyH_take (i := 1) (v := ?_) rfl (by kernel_rfl) (by kernel_rfl) (by kernel_rfl) (fun _ _ _ h => h) (Or.inl ⟨by rfl, ?_⟩) hHeld ?_
  rotate_left
  · intro wS hSw; obtain ⟨hS0, hS1, hS2⟩ := hSw; go_simp; try with_reducible rfl
  try go_simp
  refine wpAnyH_take (i := 2) (v := ?_) rfl (by kernel_rfl) (by kernel_rfl) (by kernel_rfl) (fun _ _ _ h => h) (Or.inl ⟨by rfl, ?_⟩) hHeld ?_
  rotate_left
  · intro wS hSw; obtain ⟨hS0, hS1, hS2⟩ := hSw; go_simp; try with_reducible rfl
  try go_simp
  refine wpAnyH_take (i := 3) (v := ?_) rfl (by kernel_rfl) (by kernel_rfl) (by kernel_rfl) (fun _ _ _ h => h) (Or.inl ⟨by rfl, ?_⟩) hHeld ?_
  rotate_left
  · intro wS hSw; obtain ⟨hS0, hS1, hS2⟩ := hSw; go_simp; try with_reducible rfl
  try go_simp
  refine wpAnyH_ready (rs := [4]) (by kernel_rfl) (by simp) ?_
  refine AllReadyH.cons rfl (fun K hK => ?_) AllReadyH.nil
  go_simp
  refine (rfits_any n d _).mono ?_
  rw [HF.out]
  rintro e x ⟨rfl, rfl⟩
  refine hK.out _ _ ?_ (fun hHeld => ?_)
  · exact ⟨by first | assumption | (go_simp; done), by first | assumption | (go_simp; done), by (repeat (first | assumption | exact Below.refl _ _ | refine below_set ?_ (by first | omega | (simp; done) | (simp; omega)) _ | refine below_drawn ?_ | refine below_drawnN ?_ _ | refine below_new ?_ _))⟩
  clear hK K
  try go_simp
  refine wpAnyH_take (i := 5) (v := ?_) rfl (by kernel_rfl) (by kernel_rfl) (by kernel_rfl) (fun _ _ _ h => h) (Or.inl ⟨by rfl, ?_⟩) hHeld ?_
  rotate_left
  · intro wS hSw; obtain ⟨hS0, hS1, hS2⟩ := hSw; go_simp; try with_reducible rfl
  try go_simp
  refine wpAnyH_take (i := 6) (v := ?_) rfl (by kernel_rfl) (by kernel_rfl) (by kernel_rfl) (fun _ _ _ h => h) (Or.inl ⟨by rfl, ?_⟩) hHeld ?_
  rotate_left
  · intro wS hSw; obtain ⟨hS0, hS1, hS2⟩ := hSw; go_simp; try with_reducible rfl
  try go_simp
  refine wpAnyH_take (i := 7) (v := ?_) rfl (by kernel_rfl) (by kernel_rfl) (by kernel_rfl) (fun _ _ _ h => h) (Or.inl ⟨by rfl, ?_⟩) hHeld ?_
  rotate_left
  · intro wS hSw; obtain ⟨hS0, hS1, hS2⟩ := hSw; go_simp; try with_reducible rfl
  try go_simp
  refine wpAnyH_take (i := 9) (v := ?_) rfl (by kernel_rfl) (by kernel_rfl) (by kernel_rfl) (fun _ _ _ h => h) (Or.inl ⟨by rfl, ?_⟩) hHeld ?_
  rotate_left
  · intro wS hSw; obtain ⟨hS0, hS1, hS2⟩ := hSw; go_simp; try with_reducible rfl
  try go_simp
  refine wpAnyH_take (i := 10) (v := ?_) rfl (by kernel_rfl) (by kernel_rfl) (by kernel_rfl) (fun _ _ _ h => h) (Or.inl ⟨by rfl, ?_⟩) hHeld ?_
  rotate_left
  · intro wS hSw; obtain ⟨hS0, hS1, hS2⟩ := hSw; go_simp; try with_reducible rfl
  try go_simp
  refine wpAnyH_ready (rs := [8]) (by kernel_rfl) (by simp) ?_
  refine AllReadyH.cons rfl (fun K hK => ?_) AllReadyH.nil
  go_simp
  refine (rabs_any n _ (by omega) (by omega)).mono ?_
  rintro e x ⟨rfl, rfl⟩
  refine hK.out _ _ ?_ (fun hHeld => ?_)
  · exact ⟨by first | assumption | (go_simp; done), by first | assumption | (go_simp; done), by (repeat (first | assumption | exact Below.refl _ _ | refine below_set ?_ (by first | omega | (simp; done) | (simp; omega)) _ | refine below_drawn ?_ | refine below_drawnN ?_ _ | refine below_new ?_ _))⟩
  clear hK K
  try go_simp
  refine wpAnyH_ready (rs := [11]) (by kernel_rfl) (by simp) ?_
  refine AllReadyH.cons rfl (fun K hK => ?_) AllReadyH.nil
  go_simp
  refine (rdivisor_any _ d _ (by omega) (by omega) (by omega) (by omega)).mono ?_
  rw [HG.out]
  rintro e x ⟨rfl, rfl⟩
  refine hK.out _ _ ?_ (fun hHeld => ?_)
  · exact ⟨by first | assumption | (go_simp; done), by first | assumption | (go_simp; done), by (repeat (first | assumption | exact Below.refl _ _ | refine below_set ?_ (by first | omega | (simp; done) | (simp; omega)) _ | refine below_drawn ?_ | refine below_drawnN ?_ _ | refine below_new ?_ _))⟩
  clear hK K
  try go_simp
  refine wpAnyH_take (i := 12) (v := ?_) rfl (by kernel_rfl) (by kernel_rfl) (by kernel_rfl) (fun _ _ _ h => h) (Or.inl ⟨by rfl, ?_⟩) hHeld ?_
  rotate_left
  · intro wS hSw; obtain ⟨hS0, hS1, hS2⟩ := hSw; go_simp; try with_reducible rfl
  try go_simp
  refine wpAnyH_take (i := 13) (v := ?_) rfl (by kernel_rfl) (by kernel_rfl) (by kernel_rfl) (fun _ _ _ h => h) (Or.inl ⟨by rfl, ?_⟩) hHeld ?_
  rotate_left
  · intro wS hSw; obtain ⟨hS0, hS1, hS2⟩ := hSw; go_simp; try with_reducible rfl
  try go_simp
  refine wpAnyH_take (i := 14) (v := ?_) rfl (by kernel_rfl) (by kernel_rfl) (by kernel_rfl) (fun _ _ _ h => h) (Or.inl ⟨by rfl, ?_⟩) hHeld ?_
  rotate_left
  · intro wS hSw; obtain ⟨hS0, hS1, hS2⟩ := hSw; go_simp; try with_reducible rfl
  try go_simp
  refine wpAnyH_done (by kernel_rfl) ?_ _
  obtain ⟨g0, g1, hBW⟩ := hHeld
  go_wp2
  go_ret
  exact ⟨rfl, hBW⟩
theorem rvalid_any (n d : Int) (w : World) : Calls Try.prog 24 #[.agg #[.int .i64 n, .int .i64 d]] w fun e w' => e = .returned (.bool (Rt.valid n d)) ∧ Below w.heap.size w w' := by
  cases hf : Rt.fits n d with
  | false =>
    have hv : Rt.valid n d = false := by unfold Rt.valid; rw [hf]; rfl
    rw [hv]
    exact rvalid_unfit n d w hf
  | true =>
    have hv : Rt.valid n d = (((Int.gcd (n.natAbs : Nat) d : Nat) : Int) == 1) := by
      unfold Rt.valid
      rw [hf, Bool.true_and, Bool.eq_iff_iff]
      simp only [decide_eq_true_eq, beq_iff_eq]
      have e : Int.gcd (n.natAbs : Nat) d = Int.gcd n d := by unfold Int.gcd; rw [Int.natAbs_natCast]
      rw [e]
      omega
    rw [hv]
    exact rvalid_fit n d _ w hf rfl
set_option maxHeartbeats 1000000 in
set_option maxRecDepth 100000 in
theorem rred_pos (n d g x y : Int) (b : Bool) (w : World) (h0 : -9000000000000000000 ≤ n) (h1 : n ≤ 9000000000000000000) (h2 : 0 < d) (h3 : d ≤ 9000000000000000000) (hg : (Int.gcd (n.natAbs : Nat) d : Int) = g) (hg0 : 0 < g) (hg1 : g ≤ 9000000000000000000) (hx : IntKind.i64.wrap (Int.tdiv n g) = x) (hy : IntKind.i64.wrap (Int.tdiv d g) = y) (hf : Rt.fits x y = b) :
    Calls Try.prog 30 #[.int .i64 n, .int .i64 d] w fun e w' => e = .returned (.tuple #[.agg #[.int .i64 (if b = true then x else 0), .int .i64 (if b = true then y else 0)], .int .i64 (if b = true then 0 else 3)]) ∧ Below w.heap.size w w' := by
  have hne : ¬ g = 0 := by omega
  have HG := Lib.hid hg
  have HX := Lib.hid hx
  have HY := Lib.hid hy
  have HF := Lib.hid hf
  clear hg hx hy hf
  go_enter Try.func30, Try.ntmps30
  go_wp2_with fail
  refine (rabs_any n _ (by omega) (by omega)).mono ?_
  rintro e x1 ⟨rfl, rfl⟩
  go_wp2_with fail
  refine (rdivisor_any _ d _ (by omega) (by omega) (by omega) (by omega)).mono ?_
  rw [HG.out]
  rintro e x2 ⟨rfl, rfl⟩
  go_wp2
  refine wp_region_held_drew (S := (fun W => W.cell? ⟨w.heap.size, 0, none⟩ = some (.int .i64 0) ∧ W.cell? ⟨w.heap.size, 1, none⟩ = some (.int .i64 0) ∧ Below w.heap.size w W)) (by kernel_rfl) ?_ (fun hHeld => ?_)
  · exact ⟨by first | assumption | (go_simp; done), by first | assumption | (go_simp; done), by (repeat (first | assumption | exact Below.refl _ _ | refine below_set ?_ (by first | omega | (simp; done) | (simp; omega)) _ | refine below_drawn ?_ | refine below_drawnN ?_ _ | refine below_new ?_ _))⟩
  refine wpAnyH_take (i := 0) (v := ?_) rfl (by kernel_rfl) (by kernel_rfl) (by kernel_rfl) (fun _ _ _ h => h) (Or.inl ⟨by rfl, ?_⟩) hHeld ?_
  rotate_left
  · intro wS hSw; obtain ⟨hS0, hS1, hS2⟩ := hSw; go_simp; (try simp only [HX.out]); (try simp only [HY.out]); try with_reducible rfl
  try go_simp
  refine wpAnyH_take (i := 1) (v := ?_) rfl (by kernel_rfl) (by kernel_rfl) (by kernel_rfl) (fun _ _ _ h => h) (Or.inl ⟨by rfl, ?_⟩) hHeld ?_
  rotate_left
  · intro wS hSw; obtain ⟨hS0, hS1, hS2⟩ := hSw; go_simp; (try simp only [HX.out]); (try simp only [HY.out]); try with_reducible rfl
  try go_simp
  refine wpAnyH_take (i := 2) (v := ?_) rfl (by kernel_rfl) (by kernel_rfl) (by kernel_rfl) (fun _ _ _ h => h) (Or.inl ⟨by rfl, ?_⟩) hHeld ?_
  rotate_left
  · intro wS hSw; obtain ⟨hS0, hS1, hS2⟩ := hSw; go_simp; (try simp only [HX.out]); (try simp only [HY.out]); try with_reducible rfl
  try go_simp
  refine wpAnyH_take (i := 3) (v := ?_) rfl (by kernel_rfl) (by kernel_rfl) (by kernel_rfl) (fun _ _ _ h => h) (Or.inl ⟨by rfl, ?_⟩) hHeld ?_
  rotate_left
  · intro wS hSw; obtain ⟨hS0, hS1, hS2⟩ := hSw; go_simp; (try simp only [HX.out]); (try simp only [HY.out]); try with_reducible rfl
  try go_simp
  refine wpAnyH_take (i := 4) (v := ?_) rfl (by kernel_rfl) (by kernel_rfl) (by kernel_rfl) (fun _ _ _ h => h) (Or.inl ⟨by rfl, ?_⟩) hHeld ?_
  rotate_left
  · intro wS hSw; obtain ⟨hS0, hS1, hS2⟩ := hSw; go_simp; (try simp only [HX.out]); (try simp only [HY.out]); try with_reducible rfl
  try go_simp
  refine wpAnyH_take (i := 5) (v := ?_) rfl (by kernel_rfl) (by kernel_rfl) (by kernel_rfl) (fun _ _ _ h => h) (Or.inl ⟨by rfl, ?_⟩) hHeld ?_
  rotate_left
  · intro wS hSw; obtain ⟨hS0, hS1, hS2⟩ := hSw; go_simp; (try simp only [HX.out]); (try simp only [HY.out]); try with_reducible rfl
  try go_simp
  refine wpAnyH_ready (rs := [6]) (by kernel_rfl) (by simp) ?_
  refine AllReadyH.cons rfl (fun K hK => ?_) AllReadyH.nil
  go_simp
  refine (rfits_any x y _).mono ?_
  rw [HF.out]
  rintro e x3 ⟨rfl, rfl⟩
  refine hK.out _ _ ?_ (fun hHeld => ?_)
  · exact ⟨by first | assumption | (go_simp; done), by first | assumption | (go_simp; done), by (repeat (first | assumption | exact Below.refl _ _ | refine below_set ?_ (by first | omega | (simp; done) | (simp; omega)) _ | refine below_drawn ?_ | refine below_drawnN ?_ _ | refine below_new ?_ _))⟩
  clear hK K
  try go_simp
  refine wpAnyH_take (i := 7) (v := ?_) rfl (by kernel_rfl) (by kernel_rfl) (by kernel_rfl) (fun _ _ _ h => h) (Or.inl ⟨by rfl, ?_⟩) hHeld ?_
  rotate_left
  · intro wS hSw; obtain ⟨hS0, hS1, hS2⟩ := hSw; go_simp; (try simp only [HX.out]); (try simp only [HY.out]); try with_reducible rfl
  try go_simp
  refine wpAnyH_done (by kernel_rfl) ?_ _
  cases b
  · go_wp2
    exact bodyPost_ret (v := .tuple #[.agg #[.int .i64 0, .int .i64 0], .int .i64 3]) (by simp [results, Try.results30, go_sem]) rfl ⟨rfl, by (repeat (first | assumption | exact Below.refl _ _ | refine below_set ?_ (by first | omega | (simp; done) | (simp; omega)) _ | refine below_drawn ?_ | refine below_drawnN ?_ _ | refine below_new ?_ _))⟩
  · go_wp2
    refine wp_region_held_drew (S := (fun W => Below w.heap.size w W)) (by kernel_rfl) ?_ (fun hHeld => ?_)
    · show Below w.heap.size w _; (repeat (first | assumption | exact Below.refl _ _ | refine below_set ?_ (by first | omega | (simp; done) | (simp; omega)) _ | refine below_drawn ?_ | refine below_drawnN ?_ _ | refine below_new ?_ _))
    refine wpAnyH_take (i := 0) (v := ?_) rfl (by kernel_rfl) (by kernel_rfl) (by kernel_rfl) (fun _ _ _ h => h) (Or.inl ⟨by rfl, ?_⟩) hHeld ?_
    rotate_left
    · intro wS hSw; obtain hS0 := hSw; go_simp; (try simp only [HX.out]); (try simp only [HY.out]); try with_reducible rfl
    try go_simp
    refine wpAnyH_take (i := 1) (v := ?_) rfl (by kernel_rfl) (by kernel_rfl) (by kernel_rfl) (fun _ _ _ h => h) (Or.inl ⟨by rfl, ?_⟩) hHeld ?_
    rotate_left
    · intro wS hSw; obtain hS0 := hSw; go_simp; (try simp only [HX.out]); (try simp only [HY.out]); try with_reducible rfl
    try go_simp
    refine wpAnyH_take (i := 2) (v := ?_) rfl (by kernel_rfl) (by kernel_rfl) (by kernel_rfl) (fun _ _ _ h => h) (Or.inl ⟨by rfl, ?_⟩) hHeld ?_
    rotate_left
    · intro wS hSw; obtain hS0 := hSw; go_simp; (try simp only [HX.out]); (try simp only [HY.out]); try with_reducible rfl
    try go_simp
    refine wpAnyH_take (i := 3) (v := ?_) rfl (by kernel_rfl) (by kernel_rfl) (by kernel_rfl) (fun _ _ _ h => h) (Or.inl ⟨by rfl, ?_⟩) hHeld ?_
    rotate_left
    · intro wS hSw; obtain hS0 := hSw; go_simp; (try simp only [HX.out]); (try simp only [HY.out]); try with_reducible rfl
    try go_simp
    refine wpAnyH_take (i := 4) (v := ?_) rfl (by kernel_rfl) (by kernel_rfl) (by kernel_rfl) (fun _ _ _ h => h) (Or.inl ⟨by rfl, ?_⟩) hHeld ?_
    rotate_left
    · intro wS hSw; obtain hS0 := hSw; go_simp; (try simp only [HX.out]); (try simp only [HY.out]); try with_reducible rfl
    try go_simp
    refine wpAnyH_take (i := 5) (v := ?_) rfl (by kernel_rfl) (by kernel_rfl) (by kernel_rfl) (fun _ _ _ h => h) (Or.inl ⟨by rfl, ?_⟩) hHeld ?_
    rotate_left
    · intro wS hSw; obtain hS0 := hSw; go_simp; (try simp only [HX.out]); (try simp only [HY.out]); try with_reducible rfl
    try go_simp
    refine wpAnyH_take (i := 6) (v := ?_) rfl (by kernel_rfl) (by kernel_rfl) (by kernel_rfl) (fun _ _ _ h => h) (Or.inl ⟨by rfl, ?_⟩) hHeld ?_
    rotate_left
    · intro wS hSw; obtain hS0 := hSw; go_simp; (try simp only [HX.out]); (try simp only [HY.out]); try with_reducible rfl
    try go_simp
    refine wpAnyH_ready (rs := [7]) (by kernel_rfl) (by simp) ?_
    refine AllReadyH.cons rfl (fun K hK => ?_) AllReadyH.nil
    go_simp
    refine hK.out _ _ ?_ (fun hHeld => ?_)
    · show Below w.heap.size w _; (repeat (first | assumption | exact Below.refl _ _ | refine below_set ?_ (by first | omega | (simp; done) | (simp; omega)) _ | refine below_drawn ?_ | refine below_drawnN ?_ _ | refine below_new ?_ _))
    clear hK K
    try go_simp
    refine wpAnyH_take (i := 8) (v := ?_) rfl (by kernel_rfl) (by kernel_rfl) (by kernel_rfl) (fun _ _ _ h => h) (Or.inl ⟨by rfl, ?_⟩) hHeld ?_
    rotate_left
    · intro wS hSw; obtain hS0 := hSw; go_simp; (try simp only [HX.out]); (try simp only [HY.out]); try with_reducible rfl
    try go_simp
    refine wpAnyH_done (by kernel_rfl) ?_ _
    go_wp2
    exact bodyPost_ret (v := .tuple #[.agg #[.int .i64 x, .int .i64 y], .int .i64 0]) (by simp [results, Try.results30, go_sem]) rfl ⟨rfl, by (repeat (first | assumption | exact Below.refl _ _ | refine below_set ?_ (by first | omega | (simp; done) | (simp; omega)) _ | refine below_drawn ?_ | refine below_drawnN ?_ _ | refine below_new ?_ _))⟩
set_option maxHeartbeats 1000000 in
set_option maxRecDepth 100000 in
theorem rred_neg (n d g x y : Int) (b : Bool) (w : World) (h0 : -9000000000000000000 ≤ n) (h1 : n ≤ 9000000000000000000) (h2 : 0 < d) (h3 : d ≤ 9000000000000000000) (hg : (Int.gcd (n.natAbs : Nat) d : Int) = g) (hg0 : 0 < g) (hg1 : g ≤ 9000000000000000000) (hx : IntKind.i64.wrap (Int.tdiv n g) = x) (hy : IntKind.i64.wrap (Int.tdiv d g) = y) (hf : Rt.fits x y = b) :
    Calls Try.prog 30 #[.int .i64 (-n), .int .i64 (-d)] w fun e w' => e = .returned (.tuple #[.agg #[.int .i64 (if b = true then x else 0), .int .i64 (if b = true then y else 0)], .int .i64 (if b = true then 0 else 3)]) ∧ Below w.heap.size w w' := by
  have hne : ¬ g = 0 := by omega
  have HG := Lib.hid hg
  have HX := Lib.hid hx
  have HY := Lib.hid hy
  have HF := Lib.hid hf
  clear hg hx hy hf
  go_enter Try.func30, Try.ntmps30
  go_wp2_with fail
  refine (rabs_any n _ (by omega) (by omega)).mono ?_
  rintro e x1 ⟨rfl, rfl⟩
  go_wp2_with fail
  refine (rdivisor_any _ d _ (by omega) (by omega) (by omega) (by omega)).mono ?_
  rw [HG.out]
  rintro e x2 ⟨rfl, rfl⟩
  go_wp2
  refine wp_region_held_drew (S := (fun W => W.cell? ⟨w.heap.size, 0, none⟩ = some (.int .i64 0) ∧ W.cell? ⟨w.heap.size, 1, none⟩ = some (.int .i64 0) ∧ Below w.heap.size w W)) (by kernel_rfl) ?_ (fun hHeld => ?_)
  · exact ⟨by first | assumption | (go_simp; done), by first | assumption | (go_simp; done), by (repeat (first | assumption | exact Below.refl _ _ | refine below_set ?_ (by first | omega | (simp; done) | (simp; omega)) _ | refine below_drawn ?_ | refine below_drawnN ?_ _ | refine below_new ?_ _))⟩
  refine wpAnyH_take (i := 0) (v := ?_) rfl (by kernel_rfl) (by kernel_rfl) (by kernel_rfl) (fun _ _ _ h => h) (Or.inl ⟨by rfl, ?_⟩) hHeld ?_
  rotate_left
  · intro wS hSw; obtain ⟨hS0, hS1, hS2⟩ := hSw; go_simp; (try simp only [HX.out]); (try simp only [HY.out]); try with_reducible rfl
  try go_simp
  refine wpAnyH_take (i := 1) (v := ?_) rfl (by kernel_rfl) (by kernel_rfl) (by kernel_rfl) (fun _ _ _ h => h) (Or.inl ⟨by rfl, ?_⟩) hHeld ?_
  rotate_left
  · intro wS hSw; obtain ⟨hS0, hS1, hS2⟩ := hSw; go_simp; (try simp only [HX.out]); (try simp only [HY.out]); try with_reducible rfl
  try go_simp
  refine wpAnyH_take (i := 2) (v := ?_) rfl (by kernel_rfl) (by kernel_rfl) (by kernel_rfl) (fun _ _ _ h => h) (Or.inl ⟨by rfl, ?_⟩) hHeld ?_
  rotate_left
  · intro wS hSw; obtain ⟨hS0, hS1, hS2⟩ := hSw; go_simp; (try simp only [HX.out]); (try simp only [HY.out]); try with_reducible rfl
  try go_simp
  refine wpAnyH_take (i := 3) (v := ?_) rfl (by kernel_rfl) (by kernel_rfl) (by kernel_rfl) (fun _ _ _ h => h) (Or.inl ⟨by rfl, ?_⟩) hHeld ?_
  rotate_left
  · intro wS hSw; obtain ⟨hS0, hS1, hS2⟩ := hSw; go_simp; (try simp only [HX.out]); (try simp only [HY.out]); try with_reducible rfl
  try go_simp
  refine wpAnyH_take (i := 4) (v := ?_) rfl (by kernel_rfl) (by kernel_rfl) (by kernel_rfl) (fun _ _ _ h => h) (Or.inl ⟨by rfl, ?_⟩) hHeld ?_
  rotate_left
  · intro wS hSw; obtain ⟨hS0, hS1, hS2⟩ := hSw; go_simp; (try simp only [HX.out]); (try simp only [HY.out]); try with_reducible rfl
  try go_simp
  refine wpAnyH_take (i := 5) (v := ?_) rfl (by kernel_rfl) (by kernel_rfl) (by kernel_rfl) (fun _ _ _ h => h) (Or.inl ⟨by rfl, ?_⟩) hHeld ?_
  rotate_left
  · intro wS hSw; obtain ⟨hS0, hS1, hS2⟩ := hSw; go_simp; (try simp only [HX.out]); (try simp only [HY.out]); try with_reducible rfl
  try go_simp
  refine wpAnyH_ready (rs := [6]) (by kernel_rfl) (by simp) ?_
  refine AllReadyH.cons rfl (fun K hK => ?_) AllReadyH.nil
  go_simp
  refine (rfits_any x y _).mono ?_
  rw [HF.out]
  rintro e x3 ⟨rfl, rfl⟩
  refine hK.out _ _ ?_ (fun hHeld => ?_)
  · exact ⟨by first | assumption | (go_simp; done), by first | assumption | (go_simp; done), by (repeat (first | assumption | exact Below.refl _ _ | refine below_set ?_ (by first | omega | (simp; done) | (simp; omega)) _ | refine below_drawn ?_ | refine below_drawnN ?_ _ | refine below_new ?_ _))⟩
  clear hK K
  try go_simp
  refine wpAnyH_take (i := 7) (v := ?_) rfl (by kernel_rfl) (by kernel_rfl) (by kernel_rfl) (fun _ _ _ h => h) (Or.inl ⟨by rfl, ?_⟩) hHeld ?_
  rotate_left
  · intro wS hSw; obtain ⟨hS0, hS1, hS2⟩ := hSw; go_simp; (try simp only [HX.out]); (try simp only [HY.out]); try with_reducible rfl
  try go_simp
  refine wpAnyH_done (by kernel_rfl) ?_ _
  cases b
  · go_wp2
    exact bodyPost_ret (v := .tuple #[.agg #[.int .i64 0, .int .i64 0], .int .i64 3]) (by simp [results, Try.results30, go_sem]) rfl ⟨rfl, by (repeat (first | assumption | exact Below.refl _ _ | refine below_set ?_ (by first | omega | (simp; done) | (simp; omega)) _ | refine below_drawn ?_ | refine below_drawnN ?_ _ | refine below_new ?_ _))⟩
  · go_wp2
    refine wp_region_held_drew (S := (fun W => Below w.heap.size w W)) (by kernel_rfl) ?_ (fun hHeld => ?_)
    · show Below w.heap.size w _; (repeat (first | assumption | exact Below.refl _ _ | refine below_set ?_ (by first | omega | (simp; done) | (simp; omega)) _ | refine below_drawn ?_ | refine below_drawnN ?_ _ | refine below_new ?_ _))
    refine wpAnyH_take (i := 0) (v := ?_) rfl (by kernel_rfl) (by kernel_rfl) (by kernel_rfl) (fun _ _ _ h => h) (Or.inl ⟨by rfl, ?_⟩) hHeld ?_
    rotate_left
    · intro wS hSw; obtain hS0 := hSw; go_simp; (try simp only [HX.out]); (try simp only [HY.out]); try with_reducible rfl
    try go_simp
    refine wpAnyH_take (i := 1) (v := ?_) rfl (by kernel_rfl) (by kernel_rfl) (by kernel_rfl) (fun _ _ _ h => h) (Or.inl ⟨by rfl, ?_⟩) hHeld ?_
    rotate_left
    · intro wS hSw; obtain hS0 := hSw; go_simp; (try simp only [HX.out]); (try simp only [HY.out]); try with_reducible rfl
    try go_simp
    refine wpAnyH_take (i := 2) (v := ?_) rfl (by kernel_rfl) (by kernel_rfl) (by kernel_rfl) (fun _ _ _ h => h) (Or.inl ⟨by rfl, ?_⟩) hHeld ?_
    rotate_left
    · intro wS hSw; obtain hS0 := hSw; go_simp; (try simp only [HX.out]); (try simp only [HY.out]); try with_reducible rfl
    try go_simp
    refine wpAnyH_take (i := 3) (v := ?_) rfl (by kernel_rfl) (by kernel_rfl) (by kernel_rfl) (fun _ _ _ h => h) (Or.inl ⟨by rfl, ?_⟩) hHeld ?_
    rotate_left
    · intro wS hSw; obtain hS0 := hSw; go_simp; (try simp only [HX.out]); (try simp only [HY.out]); try with_reducible rfl
    try go_simp
    refine wpAnyH_take (i := 4) (v := ?_) rfl (by kernel_rfl) (by kernel_rfl) (by kernel_rfl) (fun _ _ _ h => h) (Or.inl ⟨by rfl, ?_⟩) hHeld ?_
    rotate_left
    · intro wS hSw; obtain hS0 := hSw; go_simp; (try simp only [HX.out]); (try simp only [HY.out]); try with_reducible rfl
    try go_simp
    refine wpAnyH_take (i := 5) (v := ?_) rfl (by kernel_rfl) (by kernel_rfl) (by kernel_rfl) (fun _ _ _ h => h) (Or.inl ⟨by rfl, ?_⟩) hHeld ?_
    rotate_left
    · intro wS hSw; obtain hS0 := hSw; go_simp; (try simp only [HX.out]); (try simp only [HY.out]); try with_reducible rfl
    try go_simp
    refine wpAnyH_take (i := 6) (v := ?_) rfl (by kernel_rfl) (by kernel_rfl) (by kernel_rfl) (fun _ _ _ h => h) (Or.inl ⟨by rfl, ?_⟩) hHeld ?_
    rotate_left
    · intro wS hSw; obtain hS0 := hSw; go_simp; (try simp only [HX.out]); (try simp only [HY.out]); try with_reducible rfl
    try go_simp
    refine wpAnyH_ready (rs := [7]) (by kernel_rfl) (by simp) ?_
    refine AllReadyH.cons rfl (fun K hK => ?_) AllReadyH.nil
    go_simp
    refine hK.out _ _ ?_ (fun hHeld => ?_)
    · show Below w.heap.size w _; (repeat (first | assumption | exact Below.refl _ _ | refine below_set ?_ (by first | omega | (simp; done) | (simp; omega)) _ | refine below_drawn ?_ | refine below_drawnN ?_ _ | refine below_new ?_ _))
    clear hK K
    try go_simp
    refine wpAnyH_take (i := 8) (v := ?_) rfl (by kernel_rfl) (by kernel_rfl) (by kernel_rfl) (fun _ _ _ h => h) (Or.inl ⟨by rfl, ?_⟩) hHeld ?_
    rotate_left
    · intro wS hSw; obtain hS0 := hSw; go_simp; (try simp only [HX.out]); (try simp only [HY.out]); try with_reducible rfl
    try go_simp
    refine wpAnyH_done (by kernel_rfl) ?_ _
    go_wp2
    exact bodyPost_ret (v := .tuple #[.agg #[.int .i64 x, .int .i64 y], .int .i64 0]) (by simp [results, Try.results30, go_sem]) rfl ⟨rfl, by (repeat (first | assumption | exact Below.refl _ _ | refine below_set ?_ (by first | omega | (simp; done) | (simp; omega)) _ | refine below_drawn ?_ | refine below_drawnN ?_ _ | refine below_new ?_ _))⟩
theorem rreduced_any (n d : Int) (w : World) (h0 : -9000000000000000000 ≤ n) (h1 : n ≤ 9000000000000000000) (h2 : -9000000000000000000 ≤ d) (h3 : d ≤ 9000000000000000000) (hd : d ≠ 0) :
    Calls Try.prog 30 #[.int .i64 n, .int .i64 d] w fun e w' => e = .returned (.tuple #[.agg #[.int .i64 (Rt.red n d).1, .int .i64 (Rt.red n d).2.1], .int .i64 (Rt.red n d).2.2]) ∧ Below w.heap.size w w' := by
  obtain ⟨e1, e2⟩ := Rt.red_num (n := n) hd
  have hg0 : 0 < Int.gcd n d := Int.gcd_pos_of_ne_zero_right _ hd
  have hg1 : Int.gcd n d ≤ d.natAbs := Int.gcd_le_natAbs_right _ hd
  have hc : Calls Try.prog 30 #[.int .i64 n, .int .i64 d] w fun e w' => e = .returned (.tuple #[.agg #[.int .i64 (if Rt.fits (Rat.divInt n d).num ((Rat.divInt n d).den : Nat) = true then (Rat.divInt n d).num else 0), .int .i64 (if Rt.fits (Rat.divInt n d).num ((Rat.divInt n d).den : Nat) = true then ((Rat.divInt n d).den : Nat) else 0)], .int .i64 (if Rt.fits (Rat.divInt n d).num ((Rat.divInt n d).den : Nat) = true then 0 else 3)]) ∧ Below w.heap.size w w' := by
    by_cases hs : 0 < d
    · rw [if_neg (by omega)] at e1 e2
      have e : Int.gcd (n.natAbs : Nat) d = Int.gcd n d := by unfold Int.gcd; rw [Int.natAbs_natCast]
      rw [e1, e2]
      exact rred_pos n d (Int.gcd n d : Nat) _ _ _ w h0 h1 hs h3 (by rw [e]) (by omega) (by omega) (wrap_div _ _ h0 h1) (wrap_div _ _ h2 h3) rfl
    · rw [if_pos (by omega), Int.tdiv_neg, ← Int.neg_tdiv] at e1 e2
      have e : Int.gcd ((-n).natAbs : Nat) (-d) = Int.gcd n d := by unfold Int.gcd; rw [Int.natAbs_natCast, Int.natAbs_neg, Int.natAbs_neg]
      rw [e1, e2]
      have hh := rred_neg (-n) (-d) (Int.gcd n d : Nat) _ _ _ w (by omega) (by omega) (by omega) (by omega) (by rw [e]) (by omega) (by omega) (wrap_div _ _ (by omega) (by omega)) (wrap_div _ _ (by omega) (by omega)) rfl
      rw [Int.neg_neg, Int.neg_neg] at hh
      exact hh
  refine hc.mono ?_
  rintro e w1 ⟨rfl, hB⟩
  refine ⟨?_, hB⟩
  unfold Rt.red
  cases Rt.fits (Rat.divInt n d).num (Rat.divInt n d).den <;> rfl
set_option maxHeartbeats 1000000 in
set_option maxRecDepth 100000 in
theorem rnew_bad1 (n d : Int) (w : World) (hn : decide (-1000000000000 ≤ n ∧ n ≤ 1000000000000) = false) : Calls Try.prog 12 #[.int .i64 n, .int .i64 d] w fun e w' => e = .returned (.tuple #[.agg #[.int .i64 0, .int .i64 0], .int .i64 1]) ∧ Below w.heap.size w w' := by
  have HN := Lib.hid hn
  clear hn
  go_enter Try.func12, Try.ntmps12
  go_wp2_with fail
  refine (rvalue_any n _).mono ?_
  rw [HN.out]
  rintro e x1 ⟨rfl, rfl⟩
  go_wp2
  exact bodyPost_ret (v := .tuple #[.agg #[.int .i64 0, .int .i64 0], .int .i64 1]) (by simp [results, Try.results12, go_sem]) rfl ⟨rfl, by (repeat (first | assumption | exact Below.refl _ _ | refine below_set ?_ (by first | omega | (simp; done) | (simp; omega)) _ | refine below_drawn ?_ | refine below_drawnN ?_ _ | refine below_new ?_ _))⟩
set_option maxHeartbeats 1000000 in
set_option maxRecDepth 100000 in
theorem rnew_bad2 (n d : Int) (w : World) (hn : decide (-1000000000000 ≤ n ∧ n ≤ 1000000000000) = true) (hd : decide (-1000000000000 ≤ d ∧ d ≤ 1000000000000) = false) : Calls Try.prog 12 #[.int .i64 n, .int .i64 d] w fun e w' => e = .returned (.tuple #[.agg #[.int .i64 0, .int .i64 0], .int .i64 1]) ∧ Below w.heap.size w w' := by
  have HN := Lib.hid hn
  clear hn
  have HD := Lib.hid hd
  clear hd
  go_enter Try.func12, Try.ntmps12
  go_wp2_with fail
  refine (rvalue_any n _).mono ?_
  rw [HN.out]
  rintro e x1 ⟨rfl, rfl⟩
  go_wp2_with fail
  refine (rvalue_any d _).mono ?_
  rw [HD.out]
  rintro e x1 ⟨rfl, rfl⟩
  go_wp2
  exact bodyPost_ret (v := .tuple #[.agg #[.int .i64 0, .int .i64 0], .int .i64 1]) (by simp [results, Try.results12, go_sem]) rfl ⟨rfl, by (repeat (first | assumption | exact Below.refl _ _ | refine below_set ?_ (by first | omega | (simp; done) | (simp; omega)) _ | refine below_drawn ?_ | refine below_drawnN ?_ _ | refine below_new ?_ _))⟩
set_option maxHeartbeats 1000000 in
set_option maxRecDepth 100000 in
theorem rnew_null (n d : Int) (w : World) (hn : decide (-1000000000000 ≤ n ∧ n ≤ 1000000000000) = true) (hz : d = 0) : Calls Try.prog 12 #[.int .i64 n, .int .i64 d] w fun e w' => e = .returned (.tuple #[.agg #[.int .i64 0, .int .i64 0], .int .i64 14]) ∧ Below w.heap.size w w' := by
  have HN := Lib.hid hn
  clear hn
  have hd0 : decide (-1000000000000 ≤ (0 : Int) ∧ (0 : Int) ≤ 1000000000000) = true := by decide
  have HD := Lib.hid hd0
  clear hd0
  go_enter Try.func12, Try.ntmps12
  go_wp2_with fail
  refine (rvalue_any n _).mono ?_
  rw [HN.out]
  rintro e x1 ⟨rfl, rfl⟩
  go_wp2_with fail
  refine (rvalue_any 0 _).mono ?_
  rw [HD.out]
  rintro e x1 ⟨rfl, rfl⟩
  go_wp2
  exact bodyPost_ret (v := .tuple #[.agg #[.int .i64 0, .int .i64 0], .int .i64 14]) (by simp [results, Try.results12, go_sem]) rfl ⟨rfl, by (repeat (first | assumption | exact Below.refl _ _ | refine below_set ?_ (by first | omega | (simp; done) | (simp; omega)) _ | refine below_drawn ?_ | refine below_drawnN ?_ _ | refine below_new ?_ _))⟩
set_option maxHeartbeats 1000000 in
set_option maxRecDepth 100000 in
theorem rnew_good (n d x y z : Int) (w : World) (hn : decide (-1000000000000 ≤ n ∧ n ≤ 1000000000000) = true) (hd : decide (-1000000000000 ≤ d ∧ d ≤ 1000000000000) = true) (hz : d ≠ 0) (h0 : -9000000000000000000 ≤ n) (h1 : n ≤ 9000000000000000000) (h2 : -9000000000000000000 ≤ d) (h3 : d ≤ 9000000000000000000) (hr : Rt.red n d = (x, y, z)) : Calls Try.prog 12 #[.int .i64 n, .int .i64 d] w fun e w' => e = .returned (.tuple #[.agg #[.int .i64 x, .int .i64 y], .int .i64 z]) ∧ Below w.heap.size w w' := by
  have HN := Lib.hid hn
  clear hn
  have HD := Lib.hid hd
  clear hd
  have HR := Lib.hid hr
  clear hr
  go_enter Try.func12, Try.ntmps12
  go_wp2_with fail
  refine (rvalue_any n _).mono ?_
  rw [HN.out]
  rintro e x1 ⟨rfl, rfl⟩
  go_wp2_with fail
  refine (rvalue_any d _).mono ?_
  rw [HD.out]
  rintro e x1 ⟨rfl, rfl⟩
  go_wp2_with fail
  refine (rreduced_any n d _ h0 h1 h2 h3 hz).mono ?_
  rw [HR.out]
  rintro e w1 ⟨rfl, hb_w1⟩
  have hB_w1 : Below w.heap.size w w1 := below_on (by (repeat (first | assumption | exact Below.refl _ _ | refine below_set ?_ (by first | omega | (simp; done) | (simp; omega)) _ | refine below_drawn ?_ | refine below_drawnN ?_ _ | refine below_new ?_ _))) hb_w1
  have hz_w1 := hb_w1.size
  try simp only [World.size_setCell] at hz_w1
  try simp only [World.size_drew] at hz_w1
  try simp only [World.size_drewN] at hz_w1
  try simp only [World.size_alloc] at hz_w1
  try simp only [World.size_setCell] at hz_w1
  try simp only [World.size_drew] at hz_w1
  try simp only [World.size_drewN] at hz_w1
  try simp only [World.size_alloc] at hz_w1
  have hl0_w1 : w.heap.size < w1.heap.size := by omega
  have d0_w1 : w1.cell? ⟨w.heap.size, 0, none⟩ = some (.int .i64 0) := below_cell_of hb_w1 (by first | (go_simp; done) | (refine below_cell_of (w := w) ?_ (by first | assumption | (go_simp; done)); (repeat (first | assumption | exact Below.refl _ _ | refine below_set ?_ (by first | omega | (simp; done) | (simp; omega)) _ | refine below_drawn ?_ | refine below_drawnN ?_ _ | refine below_new ?_ _))))
  have fzd0_w1 : w1.frozen? ⟨w.heap.size, 0, none⟩ = false := below_frozen_of hb_w1 (by first | omega | (simp; done) | (simp; omega)) (by first | (go_simp; done))
  have d1_w1 : w1.cell? ⟨w.heap.size, 1, none⟩ = some (.int .i64 0) := below_cell_of hb_w1 (by first | (go_simp; done) | (refine below_cell_of (w := w) ?_ (by first | assumption | (go_simp; done)); (repeat (first | assumption | exact Below.refl _ _ | refine below_set ?_ (by first | omega | (simp; done) | (simp; omega)) _ | refine below_drawn ?_ | refine below_drawnN ?_ _ | refine below_new ?_ _))))
  have fzd1_w1 : w1.frozen? ⟨w.heap.size, 1, none⟩ = false := below_frozen_of hb_w1 (by first | omega | (simp; done) | (simp; omega)) (by first | (go_simp; done))
  go_wp2
  exact bodyPost_ret (v := .tuple #[.agg #[.int .i64 x, .int .i64 y], .int .i64 z]) (by simp [results, Try.results12, go_sem, d0_w1, d1_w1]) rfl ⟨rfl, by (repeat (first | assumption | exact Below.refl _ _ | refine below_set ?_ (by first | omega | (simp; done) | (simp; omega)) _ | refine below_drawn ?_ | refine below_drawnN ?_ _ | refine below_new ?_ _))⟩
theorem rnew_any (n d : Int) (w : World) : Calls Try.prog 12 #[.int .i64 n, .int .i64 d] w fun e w' => e = .returned (.tuple #[.agg #[.int .i64 (Rt.new n d).1, .int .i64 (Rt.new n d).2.1], .int .i64 (Rt.new n d).2.2]) ∧ Below w.heap.size w w' := by
  by_cases h : n < -1000000000000 ∨ 1000000000000 < n ∨ d < -1000000000000 ∨ 1000000000000 < d
  · have e1 : Rt.new n d = (0, 0, 1) := by unfold Rt.new; rw [if_pos h]
    rw [e1]
    by_cases k : -1000000000000 ≤ n ∧ n ≤ 1000000000000
    · exact rnew_bad2 n d w (decide_eq_true k) (decide_eq_false (by omega))
    · exact rnew_bad1 n d w (decide_eq_false k)
  · by_cases hd : d = 0
    · have e1 : Rt.new n d = (0, 0, 14) := Rt.new_zero (by omega) (by omega) hd
      rw [e1]
      exact rnew_null n d w (decide_eq_true (by omega)) hd
    · have e1 : Rt.new n d = Rt.red n d := Rt.new_red (by omega) (by omega) (by omega) (by omega) hd
      rw [e1]
      exact rnew_good n d _ _ _ w (decide_eq_true (by omega)) (decide_eq_true (by omega)) hd (by omega) (by omega) (by omega) (by omega) rfl
end Go.Proofs.Ytjnjokkhkfdaiaa
