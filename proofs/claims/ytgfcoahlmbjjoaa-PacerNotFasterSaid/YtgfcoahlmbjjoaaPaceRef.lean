/- The reference of package pacer returns the same. -/
import Derived.Test.YtgfcoahlmbjjoaaPaceSend
namespace Go.Proofs.Ytgfcoahlmbjjoaa
open Go.RowKit

theorem rtime_any (n : Int) (w : World) : Calls Try.prog 17 #[.int .i64 n] w fun e w' => e = .returned (.bool (Pc.timeB n)) ∧ w = w' := by
  go_enter Try.func17, Try.ntmps17
  go_wp2
  all_goals go_ret
  all_goals refine ⟨ret_bool ?_, rfl⟩
  all_goals simp [Pc.timeB]
  all_goals omega
theorem rrate_any (n : Int) (w : World) : Calls Try.prog 18 #[.int .i64 n] w fun e w' => e = .returned (.bool (Pc.rateB n)) ∧ w = w' := by
  go_enter Try.func18, Try.ntmps18
  go_wp2
  all_goals go_ret
  all_goals refine ⟨ret_bool ?_, rfl⟩
  all_goals simp [Pc.rateB]
  all_goals omega
theorem rvalid_any (n r : Int) (w : World) : Calls Try.prog 14 #[.agg #[.int .i64 n, .int .i64 r]] w fun e w' => e = .returned (.bool (Pc.validB n r)) ∧ Below w.heap.size w w' := by
  go_enter Try.func14, Try.ntmps14
  go_wp2
  all_goals go_ret
  all_goals refine ⟨ret_bool ?_, below_new (Below.refl _ _) _⟩
  all_goals rw [Bool.eq_iff_iff, Pc.validB_iff]
  all_goals simp
  all_goals omega
theorem in_readyR (n r now : Int) : (Pc.validB n r && Pc.timeB now && decide (n ≤ now)) = Pc.readyB n r now := rfl
theorem rready_any (n r now : Int) (w : World) : Calls Try.prog 16 #[.agg #[.int .i64 n, .int .i64 r], .int .i64 now] w fun e w' => e = .returned (.bool (Pc.readyB n r now)) ∧ Below w.heap.size w w' := by
  have key : ∀ a b : Bool, Pc.validB n r = a → Pc.timeB now = b → Calls Try.prog 16 #[.agg #[.int .i64 n, .int .i64 r], .int .i64 now] w fun e w' => e = .returned (.bool (Pc.readyB n r now)) ∧ Below w.heap.size w w' := by
    intro a b ha hb
    have HA := Lib.hid ha
    have HB := Lib.hid hb
    clear ha hb
    have HE : Hid ((a && b && decide (n ≤ now)) = Pc.readyB n r now) := by rw [← in_readyR, HA.out, HB.out]; exact Lib.hid rfl
    go_enter Try.func16, Try.ntmps16
    go_wp2_with fail
    refine (rvalid_any n r _).mono ?_
    rw [HA.out]
    rintro e w1 ⟨rfl, hb1⟩
    have hB : Below w.heap.size w w1 := below_on (below_new (Below.refl _ _) _) hb1
    have c0 : w1.cell? ⟨w.heap.size, 0, none⟩ = some (.int .i64 n) := below_cell_of hb1 (by go_simp)
    go_wp2_with fail
    refine (rtime_any now _).mono ?_
    rw [HB.out]
    rintro e w2 ⟨rfl, rfl⟩
    cases a <;> cases b
    all_goals go_wp2
    all_goals go_ret
    all_goals exact ⟨ret_bool HE.out, hB⟩
  exact key _ _ rfl rfl

/-! written by gen28c.py -/
set_option maxHeartbeats 1000000 in
set_option maxRecDepth 100000 in
theorem rsend_bad3 (n r now size rate : Int) (w : World) (a b c : Bool) (ha : Pc.validB n r = a) (hb : Pc.timeB now = b) (hc : Pc.rateB rate = c) (h : (a && b && c) = false) : Calls Try.prog 12 #[.agg #[.int .i64 n, .int .i64 r], .int .i64 now, .int .i64 size, .int .i64 rate] w fun e w' => e = .returned (.tuple #[.agg #[.int .i64 0, .int .i64 0], .int .i64 1]) ∧ Below w.heap.size w w' := by
  have HA := Lib.hid ha
  have HB := Lib.hid hb
  have HC := Lib.hid hc
  clear ha hb hc
  have HH := Lib.hid h
  clear h
  go_enter Try.func12, Try.ntmps12
  go_wp2_with fail
  refine (rvalid_any n r _).mono ?_
  rw [HA.out]
  rintro e w1 ⟨rfl, hb_w1⟩
  have hB_w1 : Below w.heap.size w w1 := below_on (by repeat (first | exact Below.refl _ _ | refine below_drawn ?_ | refine below_drawnN ?_ _ | refine below_new ?_ _)) hb_w1
  have hz_w1 := hb_w1.size
  try simp only [World.size_setCell] at hz_w1
  try simp only [World.size_drew] at hz_w1
  try simp only [World.size_drewN] at hz_w1
  try simp only [World.size_alloc] at hz_w1
  try simp only [World.size_setCell] at hz_w1
  try simp only [World.size_drew] at hz_w1
  try simp only [World.size_drewN] at hz_w1
  try simp only [World.size_alloc] at hz_w1
  have c0_w1 : w1.cell? ⟨w.heap.size, 0, none⟩ = some (.int .i64 n) := below_cell_of hb_w1 (by first | (go_simp; done))
  have c1_w1 : w1.cell? ⟨w.heap.size, 1, none⟩ = some (.int .i64 r) := below_cell_of hb_w1 (by first | (go_simp; done))
  have d0_w1 : w1.cell? ⟨w.heap.size + 1, 0, none⟩ = some (.int .i64 0) := below_cell_of hb_w1 (by first | (go_simp; done))
  have fzd0_w1 : w1.frozen? ⟨w.heap.size + 1, 0, none⟩ = false := below_frozen_of hb_w1 (by first | omega | (simp; done) | (simp; omega)) (by first | (go_simp; done))
  have d1_w1 : w1.cell? ⟨w.heap.size + 1, 1, none⟩ = some (.int .i64 0) := below_cell_of hb_w1 (by first | (go_simp; done))
  have fzd1_w1 : w1.frozen? ⟨w.heap.size + 1, 1, none⟩ = false := below_frozen_of hb_w1 (by first | omega | (simp; done) | (simp; omega)) (by first | (go_simp; done))
  go_wp2_with fail
  refine (rtime_any now _).mono ?_
  rw [HB.out]
  rintro e w2 ⟨rfl, rfl⟩
  go_wp2_with fail
  refine (rrate_any rate _).mono ?_
  rw [HC.out]
  rintro e w2 ⟨rfl, rfl⟩
  have h := HH.out
  cases a <;> cases b <;> cases c <;> first | (exfalso; revert h; decide) | (clear h; go_wp2; exact bodyPost_ret (v := .tuple #[.agg #[.int .i64 0, .int .i64 0], .int .i64 1]) (by simp [results, Try.results12, go_sem, d0_w1, d1_w1]) rfl ⟨rfl, below_set (below_set hB_w1 (by simp) _) (by simp) _⟩)
set_option maxHeartbeats 1000000 in
set_option maxRecDepth 100000 in
theorem rsend_size (n r now size rate : Int) (w : World) (ha : Pc.validB n r = true) (hb : Pc.timeB now = true) (hc : Pc.rateB rate = true) (h : size < 1 ∨ 10000 < size) : Calls Try.prog 12 #[.agg #[.int .i64 n, .int .i64 r], .int .i64 now, .int .i64 size, .int .i64 rate] w fun e w' => e = .returned (.tuple #[.agg #[.int .i64 0, .int .i64 0], .int .i64 1]) ∧ Below w.heap.size w w' := by
  have HA := Lib.hid ha
  have HB := Lib.hid hb
  have HC := Lib.hid hc
  clear ha hb hc
  have HS := Lib.hid h
  clear h
  go_enter Try.func12, Try.ntmps12
  go_wp2_with fail
  refine (rvalid_any n r _).mono ?_
  rw [HA.out]
  rintro e w1 ⟨rfl, hb_w1⟩
  have hB_w1 : Below w.heap.size w w1 := below_on (by repeat (first | exact Below.refl _ _ | refine below_drawn ?_ | refine below_drawnN ?_ _ | refine below_new ?_ _)) hb_w1
  have hz_w1 := hb_w1.size
  try simp only [World.size_setCell] at hz_w1
  try simp only [World.size_drew] at hz_w1
  try simp only [World.size_drewN] at hz_w1
  try simp only [World.size_alloc] at hz_w1
  try simp only [World.size_setCell] at hz_w1
  try simp only [World.size_drew] at hz_w1
  try simp only [World.size_drewN] at hz_w1
  try simp only [World.size_alloc] at hz_w1
  have c0_w1 : w1.cell? ⟨w.heap.size, 0, none⟩ = some (.int .i64 n) := below_cell_of hb_w1 (by first | (go_simp; done))
  have c1_w1 : w1.cell? ⟨w.heap.size, 1, none⟩ = some (.int .i64 r) := below_cell_of hb_w1 (by first | (go_simp; done))
  have d0_w1 : w1.cell? ⟨w.heap.size + 1, 0, none⟩ = some (.int .i64 0) := below_cell_of hb_w1 (by first | (go_simp; done))
  have fzd0_w1 : w1.frozen? ⟨w.heap.size + 1, 0, none⟩ = false := below_frozen_of hb_w1 (by first | omega | (simp; done) | (simp; omega)) (by first | (go_simp; done))
  have d1_w1 : w1.cell? ⟨w.heap.size + 1, 1, none⟩ = some (.int .i64 0) := below_cell_of hb_w1 (by first | (go_simp; done))
  have fzd1_w1 : w1.frozen? ⟨w.heap.size + 1, 1, none⟩ = false := below_frozen_of hb_w1 (by first | omega | (simp; done) | (simp; omega)) (by first | (go_simp; done))
  go_wp2_with fail
  refine (rtime_any now _).mono ?_
  rw [HB.out]
  rintro e w2 ⟨rfl, rfl⟩
  go_wp2_with fail
  refine (rrate_any rate _).mono ?_
  rw [HC.out]
  rintro e w2 ⟨rfl, rfl⟩
  rcases HS.out with h | h
  · go_wp2
    exact bodyPost_ret (v := .tuple #[.agg #[.int .i64 0, .int .i64 0], .int .i64 1]) (by simp [results, Try.results12, go_sem, d0_w1, d1_w1]) rfl ⟨rfl, below_set (below_set hB_w1 (by simp) _) (by simp) _⟩
  · have h1 : ¬ size < 1 := by omega
    go_wp2
    exact bodyPost_ret (v := .tuple #[.agg #[.int .i64 0, .int .i64 0], .int .i64 1]) (by simp [results, Try.results12, go_sem, d0_w1, d1_w1]) rfl ⟨rfl, below_set (below_set hB_w1 (by simp) _) (by simp) _⟩
set_option maxHeartbeats 1000000 in
set_option maxRecDepth 100000 in
theorem rsend_early (n r now size rate : Int) (w : World) (ha : Pc.validB n r = true) (hb : Pc.timeB now = true) (hc : Pc.rateB rate = true) (hs0 : 1 ≤ size) (hs1 : size ≤ 10000) (h : now < n) : Calls Try.prog 12 #[.agg #[.int .i64 n, .int .i64 r], .int .i64 now, .int .i64 size, .int .i64 rate] w fun e w' => e = .returned (.tuple #[.agg #[.int .i64 0, .int .i64 0], .int .i64 18]) ∧ Below w.heap.size w w' := by
  have HA := Lib.hid ha
  have HB := Lib.hid hb
  have HC := Lib.hid hc
  clear ha hb hc
  go_enter Try.func12, Try.ntmps12
  go_wp2_with fail
  refine (rvalid_any n r _).mono ?_
  rw [HA.out]
  rintro e w1 ⟨rfl, hb_w1⟩
  have hB_w1 : Below w.heap.size w w1 := below_on (by repeat (first | exact Below.refl _ _ | refine below_drawn ?_ | refine below_drawnN ?_ _ | refine below_new ?_ _)) hb_w1
  have hz_w1 := hb_w1.size
  try simp only [World.size_setCell] at hz_w1
  try simp only [World.size_drew] at hz_w1
  try simp only [World.size_drewN] at hz_w1
  try simp only [World.size_alloc] at hz_w1
  try simp only [World.size_setCell] at hz_w1
  try simp only [World.size_drew] at hz_w1
  try simp only [World.size_drewN] at hz_w1
  try simp only [World.size_alloc] at hz_w1
  have c0_w1 : w1.cell? ⟨w.heap.size, 0, none⟩ = some (.int .i64 n) := below_cell_of hb_w1 (by first | (go_simp; done))
  have c1_w1 : w1.cell? ⟨w.heap.size, 1, none⟩ = some (.int .i64 r) := below_cell_of hb_w1 (by first | (go_simp; done))
  have d0_w1 : w1.cell? ⟨w.heap.size + 1, 0, none⟩ = some (.int .i64 0) := below_cell_of hb_w1 (by first | (go_simp; done))
  have fzd0_w1 : w1.frozen? ⟨w.heap.size + 1, 0, none⟩ = false := below_frozen_of hb_w1 (by first | omega | (simp; done) | (simp; omega)) (by first | (go_simp; done))
  have d1_w1 : w1.cell? ⟨w.heap.size + 1, 1, none⟩ = some (.int .i64 0) := below_cell_of hb_w1 (by first | (go_simp; done))
  have fzd1_w1 : w1.frozen? ⟨w.heap.size + 1, 1, none⟩ = false := below_frozen_of hb_w1 (by first | omega | (simp; done) | (simp; omega)) (by first | (go_simp; done))
  go_wp2_with fail
  refine (rtime_any now _).mono ?_
  rw [HB.out]
  rintro e w2 ⟨rfl, rfl⟩
  go_wp2_with fail
  refine (rrate_any rate _).mono ?_
  rw [HC.out]
  rintro e w2 ⟨rfl, rfl⟩
  go_wp2
  exact bodyPost_ret (v := .tuple #[.agg #[.int .i64 0, .int .i64 0], .int .i64 18]) (by simp [results, Try.results12, go_sem, d0_w1, d1_w1]) rfl ⟨rfl, below_set (below_set hB_w1 (by simp) _) (by simp) _⟩
set_option maxHeartbeats 1000000 in
set_option maxRecDepth 100000 in
theorem rsend_rest (n r now size rate : Int) (w : World) (ha : Pc.validB n r = true) (hb : Pc.timeB now = true) (hc : Pc.rateB rate = true) (hs0 : 1 ≤ size) (hs1 : size ≤ 10000) (h : now = n) (k : r < rate) : Calls Try.prog 12 #[.agg #[.int .i64 n, .int .i64 r], .int .i64 now, .int .i64 size, .int .i64 rate] w fun e w' => e = .returned (.tuple #[.agg #[.int .i64 (now + (size * 1000 + r) / rate), .int .i64 ((size * 1000 + r) % rate)], .int .i64 0]) ∧ Below w.heap.size w w' := by
  have HA := Lib.hid ha
  have HB := Lib.hid hb
  have HC := Lib.hid hc
  have hv := (Pc.validB_iff n r).1 ha
  have ht := (Pc.timeB_iff now).1 hb
  have hr := (Pc.rateB_iff rate).1 hc
  obtain ⟨hr0, hr1⟩ := hr
  obtain ⟨ht0, ht1⟩ := ht
  obtain ⟨hv0, hv1, hv2, hv3⟩ := hv
  have hq0 : 0 ≤ (size * 1000 + r) / rate := Int.ediv_nonneg (by omega) (by omega)
  have hq1 : (size * 1000 + r) / rate ≤ 10999999 := Int.le_trans (Int.ediv_le_self _ (by omega)) (by omega)
  have hm0 : 0 ≤ (size * 1000 + r) / rate * rate := Int.mul_nonneg hq0 (by omega)
  have hm1 : (size * 1000 + r) / rate * rate ≤ size * 1000 + r := Int.ediv_mul_le _ (by omega)
  have hE : (size * 1000 + r) - (size * 1000 + r) / rate * rate = (size * 1000 + r) % rate := by have := Int.mul_ediv_add_emod (size * 1000 + r) rate; rw [Int.mul_comm] at this; omega
  have HE := Lib.hid hE
  clear ha hb hc hE
  subst h
  go_enter Try.func12, Try.ntmps12
  go_wp2_with fail
  refine (rvalid_any now r _).mono ?_
  rw [HA.out]
  rintro e w1 ⟨rfl, hb_w1⟩
  have hB_w1 : Below w.heap.size w w1 := below_on (by repeat (first | exact Below.refl _ _ | refine below_drawn ?_ | refine below_drawnN ?_ _ | refine below_new ?_ _)) hb_w1
  have hz_w1 := hb_w1.size
  try simp only [World.size_setCell] at hz_w1
  try simp only [World.size_drew] at hz_w1
  try simp only [World.size_drewN] at hz_w1
  try simp only [World.size_alloc] at hz_w1
  try simp only [World.size_setCell] at hz_w1
  try simp only [World.size_drew] at hz_w1
  try simp only [World.size_drewN] at hz_w1
  try simp only [World.size_alloc] at hz_w1
  have c0_w1 : w1.cell? ⟨w.heap.size, 0, none⟩ = some (.int .i64 now) := below_cell_of hb_w1 (by first | (go_simp; done))
  have c1_w1 : w1.cell? ⟨w.heap.size, 1, none⟩ = some (.int .i64 r) := below_cell_of hb_w1 (by first | (go_simp; done))
  have d0_w1 : w1.cell? ⟨w.heap.size + 1, 0, none⟩ = some (.int .i64 0) := below_cell_of hb_w1 (by first | (go_simp; done))
  have fzd0_w1 : w1.frozen? ⟨w.heap.size + 1, 0, none⟩ = false := below_frozen_of hb_w1 (by first | omega | (simp; done) | (simp; omega)) (by first | (go_simp; done))
  have d1_w1 : w1.cell? ⟨w.heap.size + 1, 1, none⟩ = some (.int .i64 0) := below_cell_of hb_w1 (by first | (go_simp; done))
  have fzd1_w1 : w1.frozen? ⟨w.heap.size + 1, 1, none⟩ = false := below_frozen_of hb_w1 (by first | omega | (simp; done) | (simp; omega)) (by first | (go_simp; done))
  go_wp2_with fail
  refine (rtime_any now _).mono ?_
  rw [HB.out]
  rintro e w2 ⟨rfl, rfl⟩
  go_wp2_with fail
  refine (rrate_any rate _).mono ?_
  rw [HC.out]
  rintro e w2 ⟨rfl, rfl⟩
  go_wp2
  refine bodyPost_ret (v := .tuple #[.agg #[.int .i64 (now + (size * 1000 + r) / rate), .int .i64 ((size * 1000 + r) % rate)], .int .i64 0]) (by simp [results, Try.results12, go_sem, d0_w1, d1_w1, HE.out]) rfl ⟨rfl, below_set (below_set hB_w1 (by simp) _) (by simp) _⟩
set_option maxHeartbeats 1000000 in
set_option maxRecDepth 100000 in
theorem rsend_norest (n r now size rate : Int) (w : World) (ha : Pc.validB n r = true) (hb : Pc.timeB now = true) (hc : Pc.rateB rate = true) (hs0 : 1 ≤ size) (hs1 : size ≤ 10000) (h : now = n) (k : ¬ r < rate) : Calls Try.prog 12 #[.agg #[.int .i64 n, .int .i64 r], .int .i64 now, .int .i64 size, .int .i64 rate] w fun e w' => e = .returned (.tuple #[.agg #[.int .i64 (now + (size * 1000) / rate), .int .i64 ((size * 1000) % rate)], .int .i64 0]) ∧ Below w.heap.size w w' := by
  have HA := Lib.hid ha
  have HB := Lib.hid hb
  have HC := Lib.hid hc
  have hv := (Pc.validB_iff n r).1 ha
  have ht := (Pc.timeB_iff now).1 hb
  have hr := (Pc.rateB_iff rate).1 hc
  obtain ⟨hr0, hr1⟩ := hr
  obtain ⟨ht0, ht1⟩ := ht
  obtain ⟨hv0, hv1, hv2, hv3⟩ := hv
  have hq0 : 0 ≤ (size * 1000) / rate := Int.ediv_nonneg (by omega) (by omega)
  have hq1 : (size * 1000) / rate ≤ 10999999 := Int.le_trans (Int.ediv_le_self _ (by omega)) (by omega)
  have hm0 : 0 ≤ (size * 1000) / rate * rate := Int.mul_nonneg hq0 (by omega)
  have hm1 : (size * 1000) / rate * rate ≤ size * 1000 := Int.ediv_mul_le _ (by omega)
  have hE : (size * 1000) - (size * 1000) / rate * rate = (size * 1000) % rate := by have := Int.mul_ediv_add_emod (size * 1000) rate; rw [Int.mul_comm] at this; omega
  have HE := Lib.hid hE
  clear ha hb hc hE
  subst h
  go_enter Try.func12, Try.ntmps12
  go_wp2_with fail
  refine (rvalid_any now r _).mono ?_
  rw [HA.out]
  rintro e w1 ⟨rfl, hb_w1⟩
  have hB_w1 : Below w.heap.size w w1 := below_on (by repeat (first | exact Below.refl _ _ | refine below_drawn ?_ | refine below_drawnN ?_ _ | refine below_new ?_ _)) hb_w1
  have hz_w1 := hb_w1.size
  try simp only [World.size_setCell] at hz_w1
  try simp only [World.size_drew] at hz_w1
  try simp only [World.size_drewN] at hz_w1
  try simp only [World.size_alloc] at hz_w1
  try simp only [World.size_setCell] at hz_w1
  try simp only [World.size_drew] at hz_w1
  try simp only [World.size_drewN] at hz_w1
  try simp only [World.size_alloc] at hz_w1
  have c0_w1 : w1.cell? ⟨w.heap.size, 0, none⟩ = some (.int .i64 now) := below_cell_of hb_w1 (by first | (go_simp; done))
  have c1_w1 : w1.cell? ⟨w.heap.size, 1, none⟩ = some (.int .i64 r) := below_cell_of hb_w1 (by first | (go_simp; done))
  have d0_w1 : w1.cell? ⟨w.heap.size + 1, 0, none⟩ = some (.int .i64 0) := below_cell_of hb_w1 (by first | (go_simp; done))
  have fzd0_w1 : w1.frozen? ⟨w.heap.size + 1, 0, none⟩ = false := below_frozen_of hb_w1 (by first | omega | (simp; done) | (simp; omega)) (by first | (go_simp; done))
  have d1_w1 : w1.cell? ⟨w.heap.size + 1, 1, none⟩ = some (.int .i64 0) := below_cell_of hb_w1 (by first | (go_simp; done))
  have fzd1_w1 : w1.frozen? ⟨w.heap.size + 1, 1, none⟩ = false := below_frozen_of hb_w1 (by first | omega | (simp; done) | (simp; omega)) (by first | (go_simp; done))
  go_wp2_with fail
  refine (rtime_any now _).mono ?_
  rw [HB.out]
  rintro e w2 ⟨rfl, rfl⟩
  go_wp2_with fail
  refine (rrate_any rate _).mono ?_
  rw [HC.out]
  rintro e w2 ⟨rfl, rfl⟩
  go_wp2
  refine bodyPost_ret (v := .tuple #[.agg #[.int .i64 (now + (size * 1000) / rate), .int .i64 ((size * 1000) % rate)], .int .i64 0]) (by simp [results, Try.results12, go_sem, d0_w1, d1_w1, HE.out]) rfl ⟨rfl, below_set (below_set hB_w1 (by simp) _) (by simp) _⟩
set_option maxHeartbeats 1000000 in
set_option maxRecDepth 100000 in
theorem rsend_late (n r now size rate : Int) (w : World) (ha : Pc.validB n r = true) (hb : Pc.timeB now = true) (hc : Pc.rateB rate = true) (hs0 : 1 ≤ size) (hs1 : size ≤ 10000) (h : n < now) : Calls Try.prog 12 #[.agg #[.int .i64 n, .int .i64 r], .int .i64 now, .int .i64 size, .int .i64 rate] w fun e w' => e = .returned (.tuple #[.agg #[.int .i64 (now + (size * 1000) / rate), .int .i64 ((size * 1000) % rate)], .int .i64 0]) ∧ Below w.heap.size w w' := by
  have HA := Lib.hid ha
  have HB := Lib.hid hb
  have HC := Lib.hid hc
  have hv := (Pc.validB_iff n r).1 ha
  have ht := (Pc.timeB_iff now).1 hb
  have hr := (Pc.rateB_iff rate).1 hc
  obtain ⟨hr0, hr1⟩ := hr
  obtain ⟨ht0, ht1⟩ := ht
  obtain ⟨hv0, hv1, hv2, hv3⟩ := hv
  have hq0 : 0 ≤ (size * 1000) / rate := Int.ediv_nonneg (by omega) (by omega)
  have hq1 : (size * 1000) / rate ≤ 10999999 := Int.le_trans (Int.ediv_le_self _ (by omega)) (by omega)
  have hm0 : 0 ≤ (size * 1000) / rate * rate := Int.mul_nonneg hq0 (by omega)
  have hm1 : (size * 1000) / rate * rate ≤ size * 1000 := Int.ediv_mul_le _ (by omega)
  have hE : (size * 1000) - (size * 1000) / rate * rate = (size * 1000) % rate := by have := Int.mul_ediv_add_emod (size * 1000) rate; rw [Int.mul_comm] at this; omega
  have HE := Lib.hid hE
  clear ha hb hc hE
  have hne : ((now : Int) == n) = false := by rw [beq_eq_false_iff_ne]; omega
  go_enter Try.func12, Try.ntmps12
  go_wp2_with fail
  refine (rvalid_any n r _).mono ?_
  rw [HA.out]
  rintro e w1 ⟨rfl, hb_w1⟩
  have hB_w1 : Below w.heap.size w w1 := below_on (by repeat (first | exact Below.refl _ _ | refine below_drawn ?_ | refine below_drawnN ?_ _ | refine below_new ?_ _)) hb_w1
  have hz_w1 := hb_w1.size
  try simp only [World.size_setCell] at hz_w1
  try simp only [World.size_drew] at hz_w1
  try simp only [World.size_drewN] at hz_w1
  try simp only [World.size_alloc] at hz_w1
  try simp only [World.size_setCell] at hz_w1
  try simp only [World.size_drew] at hz_w1
  try simp only [World.size_drewN] at hz_w1
  try simp only [World.size_alloc] at hz_w1
  have c0_w1 : w1.cell? ⟨w.heap.size, 0, none⟩ = some (.int .i64 n) := below_cell_of hb_w1 (by first | (go_simp; done))
  have c1_w1 : w1.cell? ⟨w.heap.size, 1, none⟩ = some (.int .i64 r) := below_cell_of hb_w1 (by first | (go_simp; done))
  have d0_w1 : w1.cell? ⟨w.heap.size + 1, 0, none⟩ = some (.int .i64 0) := below_cell_of hb_w1 (by first | (go_simp; done))
  have fzd0_w1 : w1.frozen? ⟨w.heap.size + 1, 0, none⟩ = false := below_frozen_of hb_w1 (by first | omega | (simp; done) | (simp; omega)) (by first | (go_simp; done))
  have d1_w1 : w1.cell? ⟨w.heap.size + 1, 1, none⟩ = some (.int .i64 0) := below_cell_of hb_w1 (by first | (go_simp; done))
  have fzd1_w1 : w1.frozen? ⟨w.heap.size + 1, 1, none⟩ = false := below_frozen_of hb_w1 (by first | omega | (simp; done) | (simp; omega)) (by first | (go_simp; done))
  go_wp2_with fail
  refine (rtime_any now _).mono ?_
  rw [HB.out]
  rintro e w2 ⟨rfl, rfl⟩
  go_wp2_with fail
  refine (rrate_any rate _).mono ?_
  rw [HC.out]
  rintro e w2 ⟨rfl, rfl⟩
  go_wp2
  refine bodyPost_ret (v := .tuple #[.agg #[.int .i64 (now + (size * 1000) / rate), .int .i64 ((size * 1000) % rate)], .int .i64 0]) (by simp [results, Try.results12, go_sem, d0_w1, d1_w1, HE.out]) rfl ⟨rfl, below_set (below_set hB_w1 (by simp) _) (by simp) _⟩

theorem rsend_any (n r now size rate : Int) (w : World) : Calls Try.prog 12 #[.agg #[.int .i64 n, .int .i64 r], .int .i64 now, .int .i64 size, .int .i64 rate] w fun e w' => e = .returned (.tuple #[.agg #[.int .i64 (Pc.send n r now size rate).1, .int .i64 (Pc.send n r now size rate).2.1], .int .i64 (Pc.send n r now size rate).2.2]) ∧ Below w.heap.size w w' := by
  by_cases h3 : (Pc.validB n r && Pc.timeB now && Pc.rateB rate) = false
  · have e : Pc.send n r now size rate = (0, 0, 1) := by unfold Pc.send; rw [if_neg (fun k => by rw [k.1, k.2.1, k.2.2.2] at h3; simp at h3)]
    rw [e]
    exact rsend_bad3 n r now size rate w _ _ _ rfl rfl rfl h3
  · rw [Bool.not_eq_false] at h3
    simp only [Bool.and_eq_true] at h3
    obtain ⟨⟨ha, hb⟩, hc⟩ := h3
    by_cases hs : size < 1 ∨ 10000 < size
    · have e : Pc.send n r now size rate = (0, 0, 1) := by
        unfold Pc.send
        rw [if_neg (fun k => by have := (Pc.sizeB_iff size).1 k.2.2.1; omega)]
      rw [e]
      exact rsend_size n r now size rate w ha hb hc hs
    · have hsz : Pc.sizeB size = true := (Pc.sizeB_iff size).2 (by omega)
      by_cases hn : now < n
      · have e : Pc.send n r now size rate = (0, 0, 18) := by
          unfold Pc.send
          rw [if_pos ⟨ha, hb, hsz, hc⟩, if_pos hn]
        rw [e]
        exact rsend_early n r now size rate w ha hb hc (by omega) (by omega) hn
      · rw [Pc.send_ok ha hb hsz hc (by omega)]
        by_cases h : now = n
        · by_cases k : r < rate
          · have e : Pc.amt n r now size rate = size * 1000 + r := by unfold Pc.amt; rw [if_pos ⟨h, k⟩]; omega
            rw [e]
            exact rsend_rest n r now size rate w ha hb hc (by omega) (by omega) h k
          · have e : Pc.amt n r now size rate = size * 1000 := by unfold Pc.amt; rw [if_neg (fun x => k x.2)]; omega
            rw [e]
            exact rsend_norest n r now size rate w ha hb hc (by omega) (by omega) h k
        · have e : Pc.amt n r now size rate = size * 1000 := by unfold Pc.amt; rw [if_neg (fun x => h x.1)]; omega
          rw [e]
          exact rsend_late n r now size rate w ha hb hc (by omega) (by omega) (by omega)
end Go.Proofs.Ytgfcoahlmbjjoaa
