/- Package pacer: what sending a packet returns. -/
import Derived.Test.YtgfcoahlmbjjoaaPaceValid
namespace Go.Proofs.Ytgfcoahlmbjjoaa
open Go.RowKit

theorem rest_any (n r now rate : Int) (w : World) : Calls Try.prog 23 #[.agg #[.int .i64 n, .int .i64 r], .int .i64 now, .int .i64 rate] w fun e w' => e = .returned (.int .i64 (if now = n ∧ r < rate then r else 0)) ∧ Below w.heap.size w w' := by
  by_cases h1 : now = n
  · by_cases h2 : r < rate
    · have hE : (if now = n ∧ r < rate then r else 0) = r := if_pos ⟨h1, h2⟩
      have HE := Lib.hid hE
      clear hE
      subst h1
      go_enter Try.func23, Try.ntmps23
      go_wp2
      go_ret
      exact ⟨rfl, below_new (Below.refl _ _) _⟩
    · have hE : (if now = n ∧ r < rate then r else 0) = 0 := if_neg (fun h => h2 h.2)
      have HE := Lib.hid hE
      clear hE
      subst h1
      go_enter Try.func23, Try.ntmps23
      go_wp2
      go_ret
      exact ⟨rfl, below_new (Below.refl _ _) _⟩
  · have hE : (if now = n ∧ r < rate then r else 0) = 0 := if_neg (fun h => h1 h.1)
    have HE := Lib.hid hE
    clear hE
    go_enter Try.func23, Try.ntmps23
    go_wp2
    go_ret
    exact ⟨rfl, below_new (Below.refl _ _) _⟩

set_option maxRecDepth 100000 in
theorem send_invalid (n r now size rate : Int) (w : World) (h : Pc.validB n r = false) : Calls Try.prog 11 #[.agg #[.int .i64 n, .int .i64 r], .int .i64 now, .int .i64 size, .int .i64 rate] w fun e w' => e = .returned (.tuple #[.agg #[.int .i64 0, .int .i64 0], .int .i64 1]) ∧ Below w.heap.size w w' := by
  have H := Lib.hid h
  clear h
  go_enter Try.func11, Try.ntmps11
  go_wp2_with fail
  refine (valid_any n r _).mono ?_
  rw [H.out]
  rintro e w1 ⟨rfl, hb⟩
  have hB : Below w.heap.size w w1 := below_on (below_new (below_new (Below.refl _ _) _) _) hb
  have hlt : w.heap.size + 1 < w1.heap.size := by have := hb.size; simp at this; omega
  have c0w1 : w1.cell? ⟨w.heap.size, 0, none⟩ = some (.int .i64 n) := below_cell_of hb (by first | assumption | go_simp)
  have c1w1 : w1.cell? ⟨w.heap.size, 1, none⟩ = some (.int .i64 r) := below_cell_of hb (by first | assumption | go_simp)
  have d0w1 : w1.cell? ⟨w.heap.size + 1, 0, none⟩ = some (.int .i64 0) := below_cell_of hb (by first | assumption | go_simp)
  have d1w1 : w1.cell? ⟨w.heap.size + 1, 1, none⟩ = some (.int .i64 0) := below_cell_of hb (by first | assumption | go_simp)
  have f0w1 : w1.frozen? ⟨w.heap.size + 1, 0, none⟩ = false := below_frozen_of hb (by first | omega | (simp; done) | (simp; omega)) (by first | assumption | go_simp)
  have f1w1 : w1.frozen? ⟨w.heap.size + 1, 1, none⟩ = false := below_frozen_of hb (by first | omega | (simp; done) | (simp; omega)) (by first | assumption | go_simp)
  go_wp2
  exact bodyPost_ret (v := .tuple #[.agg #[.int .i64 0, .int .i64 0], .int .i64 1]) (by simp [results, Try.results11, go_sem, d0w1, d1w1]) rfl ⟨rfl, below_set (below_set hB (by simp) _) (by simp) _⟩

/-! written by gen28b.py -/
set_option maxHeartbeats 1000000 in
set_option maxRecDepth 100000 in
theorem send_args (n r now size rate : Int) (w : World) (h : Pc.validB n r = true) (ha : (inB (now, 0, 20000000) && inB (size, 1, 10000) && inB (rate, 1, 1000000)) = false) : Calls Try.prog 11 #[.agg #[.int .i64 n, .int .i64 r], .int .i64 now, .int .i64 size, .int .i64 rate] w fun e w' => e = .returned (.tuple #[.agg #[.int .i64 0, .int .i64 0], .int .i64 1]) ∧ Below w.heap.size w w' := by
  have H := Lib.hid h
  have HA := Lib.hid ha
  clear h ha
  go_enter Try.func11, Try.ntmps11
  go_wp2_with fail
  refine (valid_any n r _).mono ?_
  rw [H.out]
  rintro e w1 ⟨rfl, hb⟩
  have hB : Below w.heap.size w w1 := below_on (below_new (below_new (Below.refl _ _) _) _) hb
  have hlt : w.heap.size + 1 < w1.heap.size := by have := hb.size; simp at this; omega
  have c0w1 : w1.cell? ⟨w.heap.size, 0, none⟩ = some (.int .i64 n) := below_cell_of hb (by first | (go_simp; done) | (refine below_cell_of (w := w) ?_ (by first | assumption | (go_simp; done)); repeat (first | exact Below.refl _ _ | refine below_drawn ?_ | refine below_new ?_ _)))
  have c1w1 : w1.cell? ⟨w.heap.size, 1, none⟩ = some (.int .i64 r) := below_cell_of hb (by first | (go_simp; done) | (refine below_cell_of (w := w) ?_ (by first | assumption | (go_simp; done)); repeat (first | exact Below.refl _ _ | refine below_drawn ?_ | refine below_new ?_ _)))
  have d0w1 : w1.cell? ⟨w.heap.size + 1, 0, none⟩ = some (.int .i64 0) := below_cell_of hb (by first | (go_simp; done) | (refine below_cell_of (w := w) ?_ (by first | assumption | (go_simp; done)); repeat (first | exact Below.refl _ _ | refine below_drawn ?_ | refine below_new ?_ _)))
  have d1w1 : w1.cell? ⟨w.heap.size + 1, 1, none⟩ = some (.int .i64 0) := below_cell_of hb (by first | (go_simp; done) | (refine below_cell_of (w := w) ?_ (by first | assumption | (go_simp; done)); repeat (first | exact Below.refl _ _ | refine below_drawn ?_ | refine below_new ?_ _)))
  have f0w1 : w1.frozen? ⟨w.heap.size + 1, 0, none⟩ = false := below_frozen_of hb (by first | omega | (simp; done) | (simp; omega)) (by first | (go_simp; done) | (rw [World.frozen?_drew] <;> assumption))
  have f1w1 : w1.frozen? ⟨w.heap.size + 1, 1, none⟩ = false := below_frozen_of hb (by first | omega | (simp; done) | (simp; omega)) (by first | (go_simp; done) | (rw [World.frozen?_drew] <;> assumption))
  go_wp2_with fail
  refine (within_any _ _ _ _).mono ?_
  rintro e w2 ⟨rfl, rfl⟩
  go_wp2_with fail
  refine (within_any _ _ _ _).mono ?_
  rintro e w2 ⟨rfl, rfl⟩
  go_wp2_with fail
  refine (within_any _ _ _ _).mono ?_
  rintro e w2 ⟨rfl, rfl⟩
  go_wp2_with fail
  refine (all3 _ (w1.heap.size + 1 + 1 + 1 + 1 + 1 + 1 + 1 + 1 + 1) (w1.heap.size) (w1.heap.size + 1) (w1.heap.size + 1 + 1) (w1.heap.size + 1 + 1 + 1) (w1.heap.size + 1 + 1 + 1 + 1) (w1.heap.size + 1 + 1 + 1 + 1 + 1) (w1.heap.size + 1 + 1 + 1 + 1 + 1 + 1) (w1.heap.size + 1 + 1 + 1 + 1 + 1 + 1 + 1) (w1.heap.size + 1 + 1 + 1 + 1 + 1 + 1 + 1 + 1) (now, 0, 20000000) (size, 1, 10000) (rate, 1, 1000000) (by simp only [clo]; go_simp) (by simp only [clo]; go_simp) (by simp only [clo]; go_simp) (by go_simp) (by go_simp) (by go_simp) (by go_simp) (by go_simp) (by go_simp) (by go_simp) (by go_simp) (by go_simp)).mono ?_
  rw [HA.out]
  rintro e w2 ⟨rfl, hw⟩
  have hb2 : Below w1.heap.size w1 w2 := by rw [← hw]; repeat (first | exact Below.refl _ _ | refine below_drawn ?_ | refine below_new ?_ _)
  clear hw
  have hB2 : Below w.heap.size w w2 := below_on hB hb2
  have hlt2 : w.heap.size + 1 < w2.heap.size := by have := hb2.size; omega
  have c0w2 : w2.cell? ⟨w.heap.size, 0, none⟩ = some (.int .i64 n) := below_cell_of hb2 (by first | (go_simp; done) | (refine below_cell_of (w := w1) ?_ (by first | assumption | (go_simp; done)); repeat (first | exact Below.refl _ _ | refine below_drawn ?_ | refine below_new ?_ _)))
  have c1w2 : w2.cell? ⟨w.heap.size, 1, none⟩ = some (.int .i64 r) := below_cell_of hb2 (by first | (go_simp; done) | (refine below_cell_of (w := w1) ?_ (by first | assumption | (go_simp; done)); repeat (first | exact Below.refl _ _ | refine below_drawn ?_ | refine below_new ?_ _)))
  have d0w2 : w2.cell? ⟨w.heap.size + 1, 0, none⟩ = some (.int .i64 0) := below_cell_of hb2 (by first | (go_simp; done) | (refine below_cell_of (w := w1) ?_ (by first | assumption | (go_simp; done)); repeat (first | exact Below.refl _ _ | refine below_drawn ?_ | refine below_new ?_ _)))
  have d1w2 : w2.cell? ⟨w.heap.size + 1, 1, none⟩ = some (.int .i64 0) := below_cell_of hb2 (by first | (go_simp; done) | (refine below_cell_of (w := w1) ?_ (by first | assumption | (go_simp; done)); repeat (first | exact Below.refl _ _ | refine below_drawn ?_ | refine below_new ?_ _)))
  have f0w2 : w2.frozen? ⟨w.heap.size + 1, 0, none⟩ = false := below_frozen_of hb2 (by first | omega | (simp; done) | (simp; omega)) (by first | (go_simp; done) | (rw [World.frozen?_drew] <;> assumption))
  have f1w2 : w2.frozen? ⟨w.heap.size + 1, 1, none⟩ = false := below_frozen_of hb2 (by first | omega | (simp; done) | (simp; omega)) (by first | (go_simp; done) | (rw [World.frozen?_drew] <;> assumption))
  go_wp2
  exact bodyPost_ret (v := .tuple #[.agg #[.int .i64 0, .int .i64 0], .int .i64 1]) (by simp [results, Try.results11, go_sem, d0w2, d1w2]) rfl ⟨rfl, below_set (below_set hB2 (by simp) _) (by simp) _⟩
set_option maxHeartbeats 1000000 in
set_option maxRecDepth 100000 in
theorem send_early (n r now size rate : Int) (w : World) (h : Pc.validB n r = true) (ha : (inB (now, 0, 20000000) && inB (size, 1, 10000) && inB (rate, 1, 1000000)) = true) (hr : Pc.readyB n r now = false) : Calls Try.prog 11 #[.agg #[.int .i64 n, .int .i64 r], .int .i64 now, .int .i64 size, .int .i64 rate] w fun e w' => e = .returned (.tuple #[.agg #[.int .i64 0, .int .i64 0], .int .i64 18]) ∧ Below w.heap.size w w' := by
  have H := Lib.hid h
  have HA := Lib.hid ha
  have HR := Lib.hid hr
  clear h ha hr
  go_enter Try.func11, Try.ntmps11
  go_wp2_with fail
  refine (valid_any n r _).mono ?_
  rw [H.out]
  rintro e w1 ⟨rfl, hb⟩
  have hB : Below w.heap.size w w1 := below_on (below_new (below_new (Below.refl _ _) _) _) hb
  have hlt : w.heap.size + 1 < w1.heap.size := by have := hb.size; simp at this; omega
  have c0w1 : w1.cell? ⟨w.heap.size, 0, none⟩ = some (.int .i64 n) := below_cell_of hb (by first | (go_simp; done) | (refine below_cell_of (w := w) ?_ (by first | assumption | (go_simp; done)); repeat (first | exact Below.refl _ _ | refine below_drawn ?_ | refine below_new ?_ _)))
  have c1w1 : w1.cell? ⟨w.heap.size, 1, none⟩ = some (.int .i64 r) := below_cell_of hb (by first | (go_simp; done) | (refine below_cell_of (w := w) ?_ (by first | assumption | (go_simp; done)); repeat (first | exact Below.refl _ _ | refine below_drawn ?_ | refine below_new ?_ _)))
  have d0w1 : w1.cell? ⟨w.heap.size + 1, 0, none⟩ = some (.int .i64 0) := below_cell_of hb (by first | (go_simp; done) | (refine below_cell_of (w := w) ?_ (by first | assumption | (go_simp; done)); repeat (first | exact Below.refl _ _ | refine below_drawn ?_ | refine below_new ?_ _)))
  have d1w1 : w1.cell? ⟨w.heap.size + 1, 1, none⟩ = some (.int .i64 0) := below_cell_of hb (by first | (go_simp; done) | (refine below_cell_of (w := w) ?_ (by first | assumption | (go_simp; done)); repeat (first | exact Below.refl _ _ | refine below_drawn ?_ | refine below_new ?_ _)))
  have f0w1 : w1.frozen? ⟨w.heap.size + 1, 0, none⟩ = false := below_frozen_of hb (by first | omega | (simp; done) | (simp; omega)) (by first | (go_simp; done) | (rw [World.frozen?_drew] <;> assumption))
  have f1w1 : w1.frozen? ⟨w.heap.size + 1, 1, none⟩ = false := below_frozen_of hb (by first | omega | (simp; done) | (simp; omega)) (by first | (go_simp; done) | (rw [World.frozen?_drew] <;> assumption))
  go_wp2_with fail
  refine (within_any _ _ _ _).mono ?_
  rintro e w2 ⟨rfl, rfl⟩
  go_wp2_with fail
  refine (within_any _ _ _ _).mono ?_
  rintro e w2 ⟨rfl, rfl⟩
  go_wp2_with fail
  refine (within_any _ _ _ _).mono ?_
  rintro e w2 ⟨rfl, rfl⟩
  go_wp2_with fail
  refine (all3 _ (w1.heap.size + 1 + 1 + 1 + 1 + 1 + 1 + 1 + 1 + 1) (w1.heap.size) (w1.heap.size + 1) (w1.heap.size + 1 + 1) (w1.heap.size + 1 + 1 + 1) (w1.heap.size + 1 + 1 + 1 + 1) (w1.heap.size + 1 + 1 + 1 + 1 + 1) (w1.heap.size + 1 + 1 + 1 + 1 + 1 + 1) (w1.heap.size + 1 + 1 + 1 + 1 + 1 + 1 + 1) (w1.heap.size + 1 + 1 + 1 + 1 + 1 + 1 + 1 + 1) (now, 0, 20000000) (size, 1, 10000) (rate, 1, 1000000) (by simp only [clo]; go_simp) (by simp only [clo]; go_simp) (by simp only [clo]; go_simp) (by go_simp) (by go_simp) (by go_simp) (by go_simp) (by go_simp) (by go_simp) (by go_simp) (by go_simp) (by go_simp)).mono ?_
  rw [HA.out]
  rintro e w2 ⟨rfl, hw⟩
  have hb2 : Below w1.heap.size w1 w2 := by rw [← hw]; repeat (first | exact Below.refl _ _ | refine below_drawn ?_ | refine below_new ?_ _)
  clear hw
  have hB2 : Below w.heap.size w w2 := below_on hB hb2
  have hlt2 : w.heap.size + 1 < w2.heap.size := by have := hb2.size; omega
  have c0w2 : w2.cell? ⟨w.heap.size, 0, none⟩ = some (.int .i64 n) := below_cell_of hb2 (by first | (go_simp; done) | (refine below_cell_of (w := w1) ?_ (by first | assumption | (go_simp; done)); repeat (first | exact Below.refl _ _ | refine below_drawn ?_ | refine below_new ?_ _)))
  have c1w2 : w2.cell? ⟨w.heap.size, 1, none⟩ = some (.int .i64 r) := below_cell_of hb2 (by first | (go_simp; done) | (refine below_cell_of (w := w1) ?_ (by first | assumption | (go_simp; done)); repeat (first | exact Below.refl _ _ | refine below_drawn ?_ | refine below_new ?_ _)))
  have d0w2 : w2.cell? ⟨w.heap.size + 1, 0, none⟩ = some (.int .i64 0) := below_cell_of hb2 (by first | (go_simp; done) | (refine below_cell_of (w := w1) ?_ (by first | assumption | (go_simp; done)); repeat (first | exact Below.refl _ _ | refine below_drawn ?_ | refine below_new ?_ _)))
  have d1w2 : w2.cell? ⟨w.heap.size + 1, 1, none⟩ = some (.int .i64 0) := below_cell_of hb2 (by first | (go_simp; done) | (refine below_cell_of (w := w1) ?_ (by first | assumption | (go_simp; done)); repeat (first | exact Below.refl _ _ | refine below_drawn ?_ | refine below_new ?_ _)))
  have f0w2 : w2.frozen? ⟨w.heap.size + 1, 0, none⟩ = false := below_frozen_of hb2 (by first | omega | (simp; done) | (simp; omega)) (by first | (go_simp; done) | (rw [World.frozen?_drew] <;> assumption))
  have f1w2 : w2.frozen? ⟨w.heap.size + 1, 1, none⟩ = false := below_frozen_of hb2 (by first | omega | (simp; done) | (simp; omega)) (by first | (go_simp; done) | (rw [World.frozen?_drew] <;> assumption))
  go_wp2_with fail
  refine (ready_any n r now _).mono ?_
  rw [HR.out]
  rintro e w3 ⟨rfl, hb3⟩
  have hB3 : Below w.heap.size w w3 := below_on hB2 hb3
  have hlt3 : w.heap.size + 1 < w3.heap.size := by have := hb3.size; omega
  have c0w3 : w3.cell? ⟨w.heap.size, 0, none⟩ = some (.int .i64 n) := below_cell_of hb3 (by first | (go_simp; done) | (refine below_cell_of (w := w2) ?_ (by first | assumption | (go_simp; done)); repeat (first | exact Below.refl _ _ | refine below_drawn ?_ | refine below_new ?_ _)))
  have c1w3 : w3.cell? ⟨w.heap.size, 1, none⟩ = some (.int .i64 r) := below_cell_of hb3 (by first | (go_simp; done) | (refine below_cell_of (w := w2) ?_ (by first | assumption | (go_simp; done)); repeat (first | exact Below.refl _ _ | refine below_drawn ?_ | refine below_new ?_ _)))
  have d0w3 : w3.cell? ⟨w.heap.size + 1, 0, none⟩ = some (.int .i64 0) := below_cell_of hb3 (by first | (go_simp; done) | (refine below_cell_of (w := w2) ?_ (by first | assumption | (go_simp; done)); repeat (first | exact Below.refl _ _ | refine below_drawn ?_ | refine below_new ?_ _)))
  have d1w3 : w3.cell? ⟨w.heap.size + 1, 1, none⟩ = some (.int .i64 0) := below_cell_of hb3 (by first | (go_simp; done) | (refine below_cell_of (w := w2) ?_ (by first | assumption | (go_simp; done)); repeat (first | exact Below.refl _ _ | refine below_drawn ?_ | refine below_new ?_ _)))
  have f0w3 : w3.frozen? ⟨w.heap.size + 1, 0, none⟩ = false := below_frozen_of hb3 (by first | omega | (simp; done) | (simp; omega)) (by first | (go_simp; done) | (rw [World.frozen?_drew] <;> assumption))
  have f1w3 : w3.frozen? ⟨w.heap.size + 1, 1, none⟩ = false := below_frozen_of hb3 (by first | omega | (simp; done) | (simp; omega)) (by first | (go_simp; done) | (rw [World.frozen?_drew] <;> assumption))
  go_wp2
  exact bodyPost_ret (v := .tuple #[.agg #[.int .i64 0, .int .i64 0], .int .i64 18]) (by simp [results, Try.results11, go_sem, d0w3, d1w3]) rfl ⟨rfl, below_set (below_set hB3 (by simp) _) (by simp) _⟩
set_option maxHeartbeats 1000000 in
set_option maxRecDepth 100000 in
theorem send_done (n r now size rate : Int) (w : World) (h : Pc.validB n r = true) (ha : (inB (now, 0, 20000000) && inB (size, 1, 10000) && inB (rate, 1, 1000000)) = true) (hr : Pc.readyB n r now = true) : Calls Try.prog 11 #[.agg #[.int .i64 n, .int .i64 r], .int .i64 now, .int .i64 size, .int .i64 rate] w fun e w' => e = .returned (.tuple #[.agg #[.int .i64 (now + Pc.amt n r now size rate / rate), .int .i64 (Pc.amt n r now size rate % rate)], .int .i64 0]) ∧ Below w.heap.size w w' := by
  have H := Lib.hid h
  have HA := Lib.hid ha
  have HR := Lib.hid hr
  have hv := (Pc.validB_iff n r).1 h
  simp only [inB, Bool.and_eq_true, decide_eq_true_eq] at ha
  obtain ⟨⟨⟨hn0, hn1⟩, ⟨hs0, hs1⟩⟩, ⟨hr0, hr1⟩⟩ := ha
  have hA := Pc.amt_bd (n := n) (now := now) (rate := rate) ⟨hv.2.2.1, hv.2.2.2⟩ ⟨hs0, hs1⟩
  have hx0 : 0 ≤ (if now = n ∧ r < rate then r else 0) := by split <;> omega
  have hx1 : (if now = n ∧ r < rate then r else 0) ≤ 999999 := by split <;> omega
  have hE : 1000 * size + (if now = n ∧ r < rate then r else 0) = Pc.amt n r now size rate := rfl
  generalize hX : (if now = n ∧ r < rate then r else 0) = X at hx0 hx1 hE
  have HX := Lib.hid hX
  have HE := Lib.hid hE
  have hq0 : 0 ≤ (1000 * size + X) / rate := Int.ediv_nonneg (by omega) (by omega)
  have hq1 : (1000 * size + X) / rate ≤ 10999999 := Int.le_trans (Int.ediv_le_self _ (by omega)) (by omega)
  have hne : ¬ rate = 0 := by omega
  have hdv : IntKind.i64.wrap ((1000 * size + X).tdiv rate) = (1000 * size + X) / rate := by rw [Int.tdiv_eq_ediv_of_nonneg (by omega)]; exact IntWalk.i64_in _ ⟨by omega, by omega⟩
  have hsm : IntKind.i64.wrap (now + (1000 * size + X) / rate) = now + (1000 * size + X) / rate := IntWalk.i64_in _ ⟨by omega, by omega⟩
  have hrm : (1000 * size + X).tmod rate = (1000 * size + X) % rate := Int.tmod_eq_emod_of_nonneg (by omega)
  have DV := Lib.hid hdv
  have SM := Lib.hid hsm
  have RM := Lib.hid hrm
  clear h hr hv hA hX hE hdv hsm hrm
  go_enter Try.func11, Try.ntmps11
  go_wp2_with fail
  refine (valid_any n r _).mono ?_
  rw [H.out]
  rintro e w1 ⟨rfl, hb⟩
  have hB : Below w.heap.size w w1 := below_on (below_new (below_new (Below.refl _ _) _) _) hb
  have hlt : w.heap.size + 1 < w1.heap.size := by have := hb.size; simp at this; omega
  have c0w1 : w1.cell? ⟨w.heap.size, 0, none⟩ = some (.int .i64 n) := below_cell_of hb (by first | (go_simp; done) | (refine below_cell_of (w := w) ?_ (by first | assumption | (go_simp; done)); repeat (first | exact Below.refl _ _ | refine below_drawn ?_ | refine below_new ?_ _)))
  have c1w1 : w1.cell? ⟨w.heap.size, 1, none⟩ = some (.int .i64 r) := below_cell_of hb (by first | (go_simp; done) | (refine below_cell_of (w := w) ?_ (by first | assumption | (go_simp; done)); repeat (first | exact Below.refl _ _ | refine below_drawn ?_ | refine below_new ?_ _)))
  have d0w1 : w1.cell? ⟨w.heap.size + 1, 0, none⟩ = some (.int .i64 0) := below_cell_of hb (by first | (go_simp; done) | (refine below_cell_of (w := w) ?_ (by first | assumption | (go_simp; done)); repeat (first | exact Below.refl _ _ | refine below_drawn ?_ | refine below_new ?_ _)))
  have d1w1 : w1.cell? ⟨w.heap.size + 1, 1, none⟩ = some (.int .i64 0) := below_cell_of hb (by first | (go_simp; done) | (refine below_cell_of (w := w) ?_ (by first | assumption | (go_simp; done)); repeat (first | exact Below.refl _ _ | refine below_drawn ?_ | refine below_new ?_ _)))
  have f0w1 : w1.frozen? ⟨w.heap.size + 1, 0, none⟩ = false := below_frozen_of hb (by first | omega | (simp; done) | (simp; omega)) (by first | (go_simp; done) | (rw [World.frozen?_drew] <;> assumption))
  have f1w1 : w1.frozen? ⟨w.heap.size + 1, 1, none⟩ = false := below_frozen_of hb (by first | omega | (simp; done) | (simp; omega)) (by first | (go_simp; done) | (rw [World.frozen?_drew] <;> assumption))
  go_wp2_with fail
  refine (within_any _ _ _ _).mono ?_
  rintro e w2 ⟨rfl, rfl⟩
  go_wp2_with fail
  refine (within_any _ _ _ _).mono ?_
  rintro e w2 ⟨rfl, rfl⟩
  go_wp2_with fail
  refine (within_any _ _ _ _).mono ?_
  rintro e w2 ⟨rfl, rfl⟩
  go_wp2_with fail
  refine (all3 _ (w1.heap.size + 1 + 1 + 1 + 1 + 1 + 1 + 1 + 1 + 1) (w1.heap.size) (w1.heap.size + 1) (w1.heap.size + 1 + 1) (w1.heap.size + 1 + 1 + 1) (w1.heap.size + 1 + 1 + 1 + 1) (w1.heap.size + 1 + 1 + 1 + 1 + 1) (w1.heap.size + 1 + 1 + 1 + 1 + 1 + 1) (w1.heap.size + 1 + 1 + 1 + 1 + 1 + 1 + 1) (w1.heap.size + 1 + 1 + 1 + 1 + 1 + 1 + 1 + 1) (now, 0, 20000000) (size, 1, 10000) (rate, 1, 1000000) (by simp only [clo]; go_simp) (by simp only [clo]; go_simp) (by simp only [clo]; go_simp) (by go_simp) (by go_simp) (by go_simp) (by go_simp) (by go_simp) (by go_simp) (by go_simp) (by go_simp) (by go_simp)).mono ?_
  rw [HA.out]
  rintro e w2 ⟨rfl, hw⟩
  have hb2 : Below w1.heap.size w1 w2 := by rw [← hw]; repeat (first | exact Below.refl _ _ | refine below_drawn ?_ | refine below_new ?_ _)
  clear hw
  have hB2 : Below w.heap.size w w2 := below_on hB hb2
  have hlt2 : w.heap.size + 1 < w2.heap.size := by have := hb2.size; omega
  have c0w2 : w2.cell? ⟨w.heap.size, 0, none⟩ = some (.int .i64 n) := below_cell_of hb2 (by first | (go_simp; done) | (refine below_cell_of (w := w1) ?_ (by first | assumption | (go_simp; done)); repeat (first | exact Below.refl _ _ | refine below_drawn ?_ | refine below_new ?_ _)))
  have c1w2 : w2.cell? ⟨w.heap.size, 1, none⟩ = some (.int .i64 r) := below_cell_of hb2 (by first | (go_simp; done) | (refine below_cell_of (w := w1) ?_ (by first | assumption | (go_simp; done)); repeat (first | exact Below.refl _ _ | refine below_drawn ?_ | refine below_new ?_ _)))
  have d0w2 : w2.cell? ⟨w.heap.size + 1, 0, none⟩ = some (.int .i64 0) := below_cell_of hb2 (by first | (go_simp; done) | (refine below_cell_of (w := w1) ?_ (by first | assumption | (go_simp; done)); repeat (first | exact Below.refl _ _ | refine below_drawn ?_ | refine below_new ?_ _)))
  have d1w2 : w2.cell? ⟨w.heap.size + 1, 1, none⟩ = some (.int .i64 0) := below_cell_of hb2 (by first | (go_simp; done) | (refine below_cell_of (w := w1) ?_ (by first | assumption | (go_simp; done)); repeat (first | exact Below.refl _ _ | refine below_drawn ?_ | refine below_new ?_ _)))
  have f0w2 : w2.frozen? ⟨w.heap.size + 1, 0, none⟩ = false := below_frozen_of hb2 (by first | omega | (simp; done) | (simp; omega)) (by first | (go_simp; done) | (rw [World.frozen?_drew] <;> assumption))
  have f1w2 : w2.frozen? ⟨w.heap.size + 1, 1, none⟩ = false := below_frozen_of hb2 (by first | omega | (simp; done) | (simp; omega)) (by first | (go_simp; done) | (rw [World.frozen?_drew] <;> assumption))
  go_wp2_with fail
  refine (ready_any n r now _).mono ?_
  rw [HR.out]
  rintro e w3 ⟨rfl, hb3⟩
  have hB3 : Below w.heap.size w w3 := below_on hB2 hb3
  have hlt3 : w.heap.size + 1 < w3.heap.size := by have := hb3.size; omega
  have c0w3 : w3.cell? ⟨w.heap.size, 0, none⟩ = some (.int .i64 n) := below_cell_of hb3 (by first | (go_simp; done) | (refine below_cell_of (w := w2) ?_ (by first | assumption | (go_simp; done)); repeat (first | exact Below.refl _ _ | refine below_drawn ?_ | refine below_new ?_ _)))
  have c1w3 : w3.cell? ⟨w.heap.size, 1, none⟩ = some (.int .i64 r) := below_cell_of hb3 (by first | (go_simp; done) | (refine below_cell_of (w := w2) ?_ (by first | assumption | (go_simp; done)); repeat (first | exact Below.refl _ _ | refine below_drawn ?_ | refine below_new ?_ _)))
  have d0w3 : w3.cell? ⟨w.heap.size + 1, 0, none⟩ = some (.int .i64 0) := below_cell_of hb3 (by first | (go_simp; done) | (refine below_cell_of (w := w2) ?_ (by first | assumption | (go_simp; done)); repeat (first | exact Below.refl _ _ | refine below_drawn ?_ | refine below_new ?_ _)))
  have d1w3 : w3.cell? ⟨w.heap.size + 1, 1, none⟩ = some (.int .i64 0) := below_cell_of hb3 (by first | (go_simp; done) | (refine below_cell_of (w := w2) ?_ (by first | assumption | (go_simp; done)); repeat (first | exact Below.refl _ _ | refine below_drawn ?_ | refine below_new ?_ _)))
  have f0w3 : w3.frozen? ⟨w.heap.size + 1, 0, none⟩ = false := below_frozen_of hb3 (by first | omega | (simp; done) | (simp; omega)) (by first | (go_simp; done) | (rw [World.frozen?_drew] <;> assumption))
  have f1w3 : w3.frozen? ⟨w.heap.size + 1, 1, none⟩ = false := below_frozen_of hb3 (by first | omega | (simp; done) | (simp; omega)) (by first | (go_simp; done) | (rw [World.frozen?_drew] <;> assumption))
  go_wp2_with fail
  refine (rest_any n r now rate _).mono ?_
  rw [HX.out]
  rintro e w4 ⟨rfl, hb4⟩
  have hB4 : Below w.heap.size w w4 := below_on hB3 hb4
  have hlt4 : w.heap.size + 1 < w4.heap.size := by have := hb4.size; omega
  have c0w4 : w4.cell? ⟨w.heap.size, 0, none⟩ = some (.int .i64 n) := below_cell_of hb4 (by first | (go_simp; done) | (refine below_cell_of (w := w3) ?_ (by first | assumption | (go_simp; done)); repeat (first | exact Below.refl _ _ | refine below_drawn ?_ | refine below_new ?_ _)))
  have c1w4 : w4.cell? ⟨w.heap.size, 1, none⟩ = some (.int .i64 r) := below_cell_of hb4 (by first | (go_simp; done) | (refine below_cell_of (w := w3) ?_ (by first | assumption | (go_simp; done)); repeat (first | exact Below.refl _ _ | refine below_drawn ?_ | refine below_new ?_ _)))
  have d0w4 : w4.cell? ⟨w.heap.size + 1, 0, none⟩ = some (.int .i64 0) := below_cell_of hb4 (by first | (go_simp; done) | (refine below_cell_of (w := w3) ?_ (by first | assumption | (go_simp; done)); repeat (first | exact Below.refl _ _ | refine below_drawn ?_ | refine below_new ?_ _)))
  have d1w4 : w4.cell? ⟨w.heap.size + 1, 1, none⟩ = some (.int .i64 0) := below_cell_of hb4 (by first | (go_simp; done) | (refine below_cell_of (w := w3) ?_ (by first | assumption | (go_simp; done)); repeat (first | exact Below.refl _ _ | refine below_drawn ?_ | refine below_new ?_ _)))
  have f0w4 : w4.frozen? ⟨w.heap.size + 1, 0, none⟩ = false := below_frozen_of hb4 (by first | omega | (simp; done) | (simp; omega)) (by first | (go_simp; done) | (rw [World.frozen?_drew] <;> assumption))
  have f1w4 : w4.frozen? ⟨w.heap.size + 1, 1, none⟩ = false := below_frozen_of hb4 (by first | omega | (simp; done) | (simp; omega)) (by first | (go_simp; done) | (rw [World.frozen?_drew] <;> assumption))
  go_wp2
  have hdv := DV.out
  have hsm := SM.out
  have hrm := RM.out
  refine wp_region_any (by kernel_rfl) ?_
  change wpAny _ _ _ _ _ _ _ (World.drew _)
  refine wpAny_take (i := 0) (v := ?_) rfl (by kernel_rfl) (by kernel_rfl) (by kernel_rfl) (fun _ _ _ h => h) (Or.inl ⟨by rfl, ?_⟩) ?_
  rotate_left
  · intro w; go_simp; try with_reducible rfl
  try go_simp
  refine wpAny_take (i := 1) (v := ?_) rfl (by kernel_rfl) (by kernel_rfl) (by kernel_rfl) (fun _ _ _ h => h) (Or.inl ⟨by rfl, ?_⟩) ?_
  rotate_left
  · intro w; go_simp; try with_reducible rfl
  try go_simp
  refine wpAny_take (i := 2) (v := ?_) rfl (by kernel_rfl) (by kernel_rfl) (by kernel_rfl) (fun _ _ _ h => h) (Or.inl ⟨by rfl, ?_⟩) ?_
  rotate_left
  · intro w; go_simp; try with_reducible rfl
  try go_simp
  refine wpAny_take (i := 3) (v := ?_) rfl (by kernel_rfl) (by kernel_rfl) (by kernel_rfl) (fun _ _ _ h => h) (Or.inl ⟨by rfl, ?_⟩) ?_
  rotate_left
  · intro w; go_simp; try with_reducible rfl
  try go_simp
  refine wpAny_take (i := 4) (v := ?_) rfl (by kernel_rfl) (by kernel_rfl) (by kernel_rfl) (fun _ _ _ h => h) (Or.inl ⟨by rfl, ?_⟩) ?_
  rotate_left
  · intro w; go_simp; try with_reducible rfl
  try go_simp
  refine wpAny_take (i := 5) (v := ?_) rfl (by kernel_rfl) (by kernel_rfl) (by kernel_rfl) (fun _ _ _ h => h) (Or.inl ⟨by rfl, ?_⟩) ?_
  rotate_left
  · intro w; go_simp; try with_reducible rfl
  try go_simp
  refine wpAny_take (i := 6) (v := ?_) rfl (by kernel_rfl) (by kernel_rfl) (by kernel_rfl) (fun _ _ _ h => h) (Or.inl ⟨by rfl, ?_⟩) ?_
  rotate_left
  · intro w; go_simp; try with_reducible rfl
  try go_simp
  refine wpAny_take (i := 7) (v := ?_) rfl (by kernel_rfl) (by kernel_rfl) (by kernel_rfl) (fun _ _ _ h => h) (Or.inl ⟨by rfl, ?_⟩) ?_
  rotate_left
  · intro w; go_simp; try with_reducible rfl
  try go_simp
  refine wpAny_take (i := 8) (v := ?_) rfl (by kernel_rfl) (by kernel_rfl) (by kernel_rfl) (fun _ _ _ h => h) (Or.inl ⟨by rfl, ?_⟩) ?_
  rotate_left
  · intro w; go_simp; try with_reducible rfl
  try go_simp
  refine wpAny_ready (rs := [9]) (by kernel_rfl) (by simp) ?_
  refine AllReady.cons rfl (fun K hK => ?_) AllReady.nil
  go_simp
  refine hK _ _ ?_
  clear hK K
  try go_simp
  refine wpAny_take (i := 10) (v := ?_) rfl (by kernel_rfl) (by kernel_rfl) (by kernel_rfl) (fun _ _ _ h => h) (Or.inl ⟨by rfl, ?_⟩) ?_
  rotate_left
  · intro w; go_simp; try with_reducible rfl
  try go_simp
  refine wpAny_done (by kernel_rfl) ?_ _
  go_wp2
  refine bodyPost_ret (v := .tuple #[.agg #[.int .i64 (now + (1000 * size + X) / rate), .int .i64 ((1000 * size + X) % rate)], .int .i64 0]) (by simp [results, Try.results11, go_sem, d0w4, d1w4]) rfl ⟨?_, ?_⟩
  · rw [HE.out]
  · exact below_set (below_set (below_drawn hB4) (by simp) _) (by simp) _

theorem in_args (now size rate : Int) : (inB (now, 0, 20000000) && inB (size, 1, 10000) && inB (rate, 1, 1000000)) = (Pc.timeB now && Pc.sizeB size && Pc.rateB rate) := by simp [inB, Pc.timeB, Pc.sizeB, Pc.rateB, Bool.and_assoc]
theorem send_any (n r now size rate : Int) (w : World) : Calls Try.prog 11 #[.agg #[.int .i64 n, .int .i64 r], .int .i64 now, .int .i64 size, .int .i64 rate] w fun e w' => e = .returned (.tuple #[.agg #[.int .i64 (Pc.send n r now size rate).1, .int .i64 (Pc.send n r now size rate).2.1], .int .i64 (Pc.send n r now size rate).2.2]) ∧ Below w.heap.size w w' := by
  cases h : Pc.validB n r with
  | false =>
    have e : Pc.send n r now size rate = (0, 0, 1) := by unfold Pc.send; rw [if_neg (fun k => by rw [h] at k; simp at k)]
    rw [e]
    exact send_invalid n r now size rate w h
  | true =>
    cases ha : (Pc.timeB now && Pc.sizeB size && Pc.rateB rate) with
    | false =>
      have e : Pc.send n r now size rate = (0, 0, 1) := by
        unfold Pc.send
        rw [if_neg (fun k => by rw [k.2.1, k.2.2.1, k.2.2.2] at ha; simp at ha)]
      rw [e]
      exact send_args n r now size rate w h (by rw [in_args]; exact ha)
    | true =>
      have ha' := ha
      simp only [Bool.and_eq_true] at ha
      cases hr : Pc.readyB n r now with
      | false =>
        have hn : now < n := by
          have h1 : ¬ (Pc.readyB n r now = true) := by rw [hr]; simp
          rw [Pc.readyB_iff] at h1
          have h2 := (Pc.validB_iff n r).1 h
          have h3 := (Pc.timeB_iff now).1 ha.1.1
          omega
        have e : Pc.send n r now size rate = (0, 0, 18) := by
          unfold Pc.send
          rw [if_pos ⟨h, ha.1.1, ha.1.2, ha.2⟩, if_pos hn]
        rw [e]
        exact send_early n r now size rate w h (by rw [in_args]; exact ha') hr
      | true =>
        have hn := ((Pc.readyB_iff n r now).1 hr).2.2
        rw [Pc.send_ok h ha.1.1 ha.1.2 ha.2 hn]
        exact send_done n r now size rate w h (by rw [in_args]; exact ha') hr
end Go.Proofs.Ytgfcoahlmbjjoaa
