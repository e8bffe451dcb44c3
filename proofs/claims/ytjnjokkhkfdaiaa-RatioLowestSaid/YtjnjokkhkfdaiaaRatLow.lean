/- The statement RatioLowest: it returns true, whatever the input, and leaves what was in memory alone. -/
import Derived.Test.YtjnjokkhkfdaiaaRatHead
namespace Go.Proofs.Ytjnjokkhkfdaiaa
open Go.RowKit

set_option maxHeartbeats 4000000 in
set_option maxRecDepth 100000 in
theorem low_bad (num den k : Int) (w : World) (h : num < -1000000 ∨ 1000000 < num ∨ den < -1000000 ∨ 1000000 < den ∨ k < -1000000 ∨ 1000000 < k ∨ k = 0) : Calls Try.prog 8 #[.int .i64 num, .int .i64 den, .int .i64 k] w fun e w' => e = .returned (.bool true) ∧ Below w.heap.size w w' := by
  have H := Lib.hid h
  clear h
  by_cases c0 : num < -1000000
  · go_enter Try.func8, Try.ntmps8
    go_wp2_with fail
    refine (head_ok _).mono ?_
    rintro e w1 ⟨rfl, hb_w1⟩
    have hB_w1 : Below w.heap.size w w1 := below_on (by (repeat (first | assumption | exact Below.refl _ _ | refine below_set ?_ (by first | omega | (simp; done) | (simp; omega)) _ | refine below_drawn ?_ | refine below_drawnN ?_ _ | refine below_new ?_ _))) hb_w1
    have hz_w1 := hb_w1.size
    try simp only [World.size_setCell] at hz_w1
    try simp only [World.size_drew] at hz_w1
    try simp only [World.size_drewN] at hz_w1
    try simp only [World.size_alloc] at hz_w1
    try simp only [World.size_setCell] at hz_w1
    try simp only [World.size_drew] at hz_w1
    try simp only [World.size_drewN] at hz_w1
    try simp only [World.size_alloc] at hz_w1
    go_wp2
    go_ret
    exact ⟨rfl, hB_w1⟩
  · skip
    by_cases c1 : 1000000 < num
    · go_enter Try.func8, Try.ntmps8
      go_wp2_with fail
      refine (head_ok _).mono ?_
      rintro e w1 ⟨rfl, hb_w1⟩
      have hB_w1 : Below w.heap.size w w1 := below_on (by (repeat (first | assumption | exact Below.refl _ _ | refine below_set ?_ (by first | omega | (simp; done) | (simp; omega)) _ | refine below_drawn ?_ | refine below_drawnN ?_ _ | refine below_new ?_ _))) hb_w1
      have hz_w1 := hb_w1.size
      try simp only [World.size_setCell] at hz_w1
      try simp only [World.size_drew] at hz_w1
      try simp only [World.size_drewN] at hz_w1
      try simp only [World.size_alloc] at hz_w1
      try simp only [World.size_setCell] at hz_w1
      try simp only [World.size_drew] at hz_w1
      try simp only [World.size_drewN] at hz_w1
      try simp only [World.size_alloc] at hz_w1
      go_wp2
      go_ret
      exact ⟨rfl, hB_w1⟩
    · skip
      by_cases c2 : den < -1000000
      · go_enter Try.func8, Try.ntmps8
        go_wp2_with fail
        refine (head_ok _).mono ?_
        rintro e w1 ⟨rfl, hb_w1⟩
        have hB_w1 : Below w.heap.size w w1 := below_on (by (repeat (first | assumption | exact Below.refl _ _ | refine below_set ?_ (by first | omega | (simp; done) | (simp; omega)) _ | refine below_drawn ?_ | refine below_drawnN ?_ _ | refine below_new ?_ _))) hb_w1
        have hz_w1 := hb_w1.size
        try simp only [World.size_setCell] at hz_w1
        try simp only [World.size_drew] at hz_w1
        try simp only [World.size_drewN] at hz_w1
        try simp only [World.size_alloc] at hz_w1
        try simp only [World.size_setCell] at hz_w1
        try simp only [World.size_drew] at hz_w1
        try simp only [World.size_drewN] at hz_w1
        try simp only [World.size_alloc] at hz_w1
        go_wp2
        go_ret
        exact ⟨rfl, hB_w1⟩
      · skip
        by_cases c3 : 1000000 < den
        · go_enter Try.func8, Try.ntmps8
          go_wp2_with fail
          refine (head_ok _).mono ?_
          rintro e w1 ⟨rfl, hb_w1⟩
          have hB_w1 : Below w.heap.size w w1 := below_on (by (repeat (first | assumption | exact Below.refl _ _ | refine below_set ?_ (by first | omega | (simp; done) | (simp; omega)) _ | refine below_drawn ?_ | refine below_drawnN ?_ _ | refine below_new ?_ _))) hb_w1
          have hz_w1 := hb_w1.size
          try simp only [World.size_setCell] at hz_w1
          try simp only [World.size_drew] at hz_w1
          try simp only [World.size_drewN] at hz_w1
          try simp only [World.size_alloc] at hz_w1
          try simp only [World.size_setCell] at hz_w1
          try simp only [World.size_drew] at hz_w1
          try simp only [World.size_drewN] at hz_w1
          try simp only [World.size_alloc] at hz_w1
          go_wp2
          go_ret
          exact ⟨rfl, hB_w1⟩
        · skip
          by_cases c4 : k < -1000000
          · go_enter Try.func8, Try.ntmps8
            go_wp2_with fail
            refine (head_ok _).mono ?_
            rintro e w1 ⟨rfl, hb_w1⟩
            have hB_w1 : Below w.heap.size w w1 := below_on (by (repeat (first | assumption | exact Below.refl _ _ | refine below_set ?_ (by first | omega | (simp; done) | (simp; omega)) _ | refine below_drawn ?_ | refine below_drawnN ?_ _ | refine below_new ?_ _))) hb_w1
            have hz_w1 := hb_w1.size
            try simp only [World.size_setCell] at hz_w1
            try simp only [World.size_drew] at hz_w1
            try simp only [World.size_drewN] at hz_w1
            try simp only [World.size_alloc] at hz_w1
            try simp only [World.size_setCell] at hz_w1
            try simp only [World.size_drew] at hz_w1
            try simp only [World.size_drewN] at hz_w1
            try simp only [World.size_alloc] at hz_w1
            go_wp2
            go_ret
            exact ⟨rfl, hB_w1⟩
          · skip
            by_cases c5 : 1000000 < k
            · go_enter Try.func8, Try.ntmps8
              go_wp2_with fail
              refine (head_ok _).mono ?_
              rintro e w1 ⟨rfl, hb_w1⟩
              have hB_w1 : Below w.heap.size w w1 := below_on (by (repeat (first | assumption | exact Below.refl _ _ | refine below_set ?_ (by first | omega | (simp; done) | (simp; omega)) _ | refine below_drawn ?_ | refine below_drawnN ?_ _ | refine below_new ?_ _))) hb_w1
              have hz_w1 := hb_w1.size
              try simp only [World.size_setCell] at hz_w1
              try simp only [World.size_drew] at hz_w1
              try simp only [World.size_drewN] at hz_w1
              try simp only [World.size_alloc] at hz_w1
              try simp only [World.size_setCell] at hz_w1
              try simp only [World.size_drew] at hz_w1
              try simp only [World.size_drewN] at hz_w1
              try simp only [World.size_alloc] at hz_w1
              go_wp2
              go_ret
              exact ⟨rfl, hB_w1⟩
            · skip
              have c6 : k = 0 := by have := H.out; omega
              go_enter Try.func8, Try.ntmps8
              go_wp2_with fail
              refine (head_ok _).mono ?_
              rintro e w1 ⟨rfl, hb_w1⟩
              have hB_w1 : Below w.heap.size w w1 := below_on (by (repeat (first | assumption | exact Below.refl _ _ | refine below_set ?_ (by first | omega | (simp; done) | (simp; omega)) _ | refine below_drawn ?_ | refine below_drawnN ?_ _ | refine below_new ?_ _))) hb_w1
              have hz_w1 := hb_w1.size
              try simp only [World.size_setCell] at hz_w1
              try simp only [World.size_drew] at hz_w1
              try simp only [World.size_drewN] at hz_w1
              try simp only [World.size_alloc] at hz_w1
              try simp only [World.size_setCell] at hz_w1
              try simp only [World.size_drew] at hz_w1
              try simp only [World.size_drewN] at hz_w1
              try simp only [World.size_alloc] at hz_w1
              go_wp2
              go_ret
              exact ⟨rfl, hB_w1⟩
set_option maxHeartbeats 4000000 in
set_option maxRecDepth 100000 in
theorem low_null (num den k : Int) (w : World) (n0 : -1000000 ≤ num) (n1 : num ≤ 1000000) (d0 : -1000000 ≤ den) (d1 : den ≤ 1000000) (k0 : -1000000 ≤ k) (k1 : k ≤ 1000000) (kz : ¬ k = 0) (hd : den = 0) (hn : Rt.new num 0 = (0, 0, 14)) (hk : Rt.new (num * k) 0 = (0, 0, 14)) : Calls Try.prog 8 #[.int .i64 num, .int .i64 den, .int .i64 k] w fun e w' => e = .returned (.bool true) ∧ Below w.heap.size w w' := by
  subst hd
  obtain ⟨m0, m1⟩ := Rt.abs_mul (a := num) (b := k) (x := 1000000) (y := 1000000) n0 n1 k0 k1 (by omega) (by omega)
  obtain ⟨m2, m3⟩ := Rt.abs_mul (a := 0) (b := k) (x := 1000000) (y := 1000000) d0 d1 k0 k1 (by omega) (by omega)
  have g0 : ¬ num < -1000000 := by omega
  have g1 : ¬ 1000000 < num := by omega
  have g2 : ¬ 0 < -1000000 := by omega
  have g3 : ¬ 1000000 < 0 := by omega
  have g4 : ¬ k < -1000000 := by omega
  have g5 : ¬ 1000000 < k := by omega
  have g6 : ¬ k = 0 := by omega
  have HN := Lib.hid hn
  have HK := Lib.hid hk
  clear hn hk
  go_enter Try.func8, Try.ntmps8
  go_wp2_with fail
  refine (head_ok _).mono ?_
  rintro e w1 ⟨rfl, hb_w1⟩
  have hB_w1 : Below w.heap.size w w1 := below_on (by (repeat (first | assumption | exact Below.refl _ _ | refine below_set ?_ (by first | omega | (simp; done) | (simp; omega)) _ | refine below_drawn ?_ | refine below_drawnN ?_ _ | refine below_new ?_ _))) hb_w1
  have hz_w1 := hb_w1.size
  try simp only [World.size_setCell] at hz_w1
  try simp only [World.size_drew] at hz_w1
  try simp only [World.size_drewN] at hz_w1
  try simp only [World.size_alloc] at hz_w1
  try simp only [World.size_setCell] at hz_w1
  try simp only [World.size_drew] at hz_w1
  try simp only [World.size_drewN] at hz_w1
  try simp only [World.size_alloc] at hz_w1
  go_wp2_with fail
  · exfalso; rename_i h; (first | (simp only [beq_iff_eq] at h; omega) | (simp only [Bool.or_eq_true, decide_eq_true_eq, beq_iff_eq] at h; omega))
  refine (new_any num 0 _).mono ?_
  rw [HN.out]
  rintro e w2 ⟨rfl, hb_w2⟩
  have hB_w2 : Below w.heap.size w w2 := below_on (by first | ((repeat (first | assumption | exact Below.refl _ _ | refine below_set ?_ (by first | omega | (simp; done) | (simp; omega)) _ | refine below_drawn ?_ | refine below_drawnN ?_ _ | refine below_new ?_ _)); done) | (refine below_on hB_w1 ?_; (repeat (first | assumption | exact Below.refl _ _ | refine below_set ?_ (by first | omega | (simp; done) | (simp; omega)) _ | refine below_drawn ?_ | refine below_drawnN ?_ _ | refine below_new ?_ _)))) hb_w2
  have hz_w2 := hb_w2.size
  try simp only [World.size_setCell] at hz_w2
  try simp only [World.size_drew] at hz_w2
  try simp only [World.size_drewN] at hz_w2
  try simp only [World.size_alloc] at hz_w2
  try simp only [World.size_setCell] at hz_w2
  try simp only [World.size_drew] at hz_w2
  try simp only [World.size_drewN] at hz_w2
  try simp only [World.size_alloc] at hz_w2
  go_wp2_with fail
  refine (new_any (num * k) 0 _).mono ?_
  rw [HK.out]
  rintro e w3 ⟨rfl, hb_w3⟩
  have hB_w3 : Below w.heap.size w w3 := below_on (by first | ((repeat (first | assumption | exact Below.refl _ _ | refine below_set ?_ (by first | omega | (simp; done) | (simp; omega)) _ | refine below_drawn ?_ | refine below_drawnN ?_ _ | refine below_new ?_ _)); done) | (refine below_on hB_w2 ?_; (repeat (first | assumption | exact Below.refl _ _ | refine below_set ?_ (by first | omega | (simp; done) | (simp; omega)) _ | refine below_drawn ?_ | refine below_drawnN ?_ _ | refine below_new ?_ _)))) hb_w3
  have hz_w3 := hb_w3.size
  try simp only [World.size_setCell] at hz_w3
  try simp only [World.size_drew] at hz_w3
  try simp only [World.size_drewN] at hz_w3
  try simp only [World.size_alloc] at hz_w3
  try simp only [World.size_setCell] at hz_w3
  try simp only [World.size_drew] at hz_w3
  try simp only [World.size_drewN] at hz_w3
  try simp only [World.size_alloc] at hz_w3
  go_wp2
  go_ret
  exact ⟨rfl, by (repeat (first | assumption | exact Below.refl _ _ | refine below_set ?_ (by first | omega | (simp; done) | (simp; omega)) _ | refine below_drawn ?_ | refine below_drawnN ?_ _ | refine below_new ?_ _))⟩
set_option maxHeartbeats 4000000 in
set_option maxRecDepth 100000 in
theorem low_good (num den k x y : Int) (w : World) (n0 : -1000000 ≤ num) (n1 : num ≤ 1000000) (d0 : -1000000 ≤ den) (d1 : den ≤ 1000000) (k0 : -1000000 ≤ k) (k1 : k ≤ 1000000) (kz : ¬ k = 0) (hd : ¬ den = 0) (hn : Rt.new num den = (x, y, 0)) (hk : Rt.new (num * k) (den * k) = (x, y, 0)) (x0 : -1000000 ≤ x) (x1 : x ≤ 1000000) (y0 : 1 ≤ y) (y1 : y ≤ 1000000) (he : x * den = y * num) (hv : Rt.valid x y = true) : Calls Try.prog 8 #[.int .i64 num, .int .i64 den, .int .i64 k] w fun e w' => e = .returned (.bool true) ∧ Below w.heap.size w w' := by
  obtain ⟨m0, m1⟩ := Rt.abs_mul (a := num) (b := k) (x := 1000000) (y := 1000000) n0 n1 k0 k1 (by omega) (by omega)
  obtain ⟨m2, m3⟩ := Rt.abs_mul (a := den) (b := k) (x := 1000000) (y := 1000000) d0 d1 k0 k1 (by omega) (by omega)
  obtain ⟨m4, m5⟩ := Rt.abs_mul (a := x) (b := den) (x := 1000000) (y := 1000000) x0 x1 d0 d1 (by omega) (by omega)
  obtain ⟨m6, m7⟩ := Rt.abs_mul (a := y) (b := num) (x := 1000000) (y := 1000000) (by omega) y1 n0 n1 (by omega) (by omega)
  have g0 : ¬ num < -1000000 := by omega
  have g1 : ¬ 1000000 < num := by omega
  have g2 : ¬ den < -1000000 := by omega
  have g3 : ¬ 1000000 < den := by omega
  have g4 : ¬ k < -1000000 := by omega
  have g5 : ¬ 1000000 < k := by omega
  have g6 : ¬ k = 0 := by omega
  have HN := Lib.hid hn
  have HK := Lib.hid hk
  have HV := Lib.hid hv
  clear hn hk hv
  go_enter Try.func8, Try.ntmps8
  go_wp2_with fail
  refine (head_ok _).mono ?_
  rintro e w1 ⟨rfl, hb_w1⟩
  have hB_w1 : Below w.heap.size w w1 := below_on (by (repeat (first | assumption | exact Below.refl _ _ | refine below_set ?_ (by first | omega | (simp; done) | (simp; omega)) _ | refine below_drawn ?_ | refine below_drawnN ?_ _ | refine below_new ?_ _))) hb_w1
  have hz_w1 := hb_w1.size
  try simp only [World.size_setCell] at hz_w1
  try simp only [World.size_drew] at hz_w1
  try simp only [World.size_drewN] at hz_w1
  try simp only [World.size_alloc] at hz_w1
  try simp only [World.size_setCell] at hz_w1
  try simp only [World.size_drew] at hz_w1
  try simp only [World.size_drewN] at hz_w1
  try simp only [World.size_alloc] at hz_w1
  go_wp2_with fail
  · exfalso; rename_i h; (first | (simp only [beq_iff_eq] at h; omega) | (simp only [Bool.or_eq_true, decide_eq_true_eq, beq_iff_eq] at h; omega))
  refine (new_any num den _).mono ?_
  rw [HN.out]
  rintro e w2 ⟨rfl, hb_w2⟩
  have hB_w2 : Below w.heap.size w w2 := below_on (by first | ((repeat (first | assumption | exact Below.refl _ _ | refine below_set ?_ (by first | omega | (simp; done) | (simp; omega)) _ | refine below_drawn ?_ | refine below_drawnN ?_ _ | refine below_new ?_ _)); done) | (refine below_on hB_w1 ?_; (repeat (first | assumption | exact Below.refl _ _ | refine below_set ?_ (by first | omega | (simp; done) | (simp; omega)) _ | refine below_drawn ?_ | refine below_drawnN ?_ _ | refine below_new ?_ _)))) hb_w2
  have hz_w2 := hb_w2.size
  try simp only [World.size_setCell] at hz_w2
  try simp only [World.size_drew] at hz_w2
  try simp only [World.size_drewN] at hz_w2
  try simp only [World.size_alloc] at hz_w2
  try simp only [World.size_setCell] at hz_w2
  try simp only [World.size_drew] at hz_w2
  try simp only [World.size_drewN] at hz_w2
  try simp only [World.size_alloc] at hz_w2
  go_wp2_with fail
  refine (new_any (num * k) (den * k) _).mono ?_
  rw [HK.out]
  rintro e w3 ⟨rfl, hb_w3⟩
  have hB_w3 : Below w.heap.size w w3 := below_on (by first | ((repeat (first | assumption | exact Below.refl _ _ | refine below_set ?_ (by first | omega | (simp; done) | (simp; omega)) _ | refine below_drawn ?_ | refine below_drawnN ?_ _ | refine below_new ?_ _)); done) | (refine below_on hB_w2 ?_; (repeat (first | assumption | exact Below.refl _ _ | refine below_set ?_ (by first | omega | (simp; done) | (simp; omega)) _ | refine below_drawn ?_ | refine below_drawnN ?_ _ | refine below_new ?_ _)))) hb_w3
  have hz_w3 := hb_w3.size
  try simp only [World.size_setCell] at hz_w3
  try simp only [World.size_drew] at hz_w3
  try simp only [World.size_drewN] at hz_w3
  try simp only [World.size_alloc] at hz_w3
  try simp only [World.size_setCell] at hz_w3
  try simp only [World.size_drew] at hz_w3
  try simp only [World.size_drewN] at hz_w3
  try simp only [World.size_alloc] at hz_w3
  have hl0_w3 : w2.heap.size < w3.heap.size := by omega
  have a0_w3 : w3.cell? ⟨w2.heap.size, 0, none⟩ = some (.int .i64 x) := below_cell_of hb_w3 (by first | (go_simp; done) | (refine below_cell_of (w := w2) ?_ (by first | assumption | (go_simp; done)); (repeat (first | assumption | exact Below.refl _ _ | refine below_set ?_ (by first | omega | (simp; done) | (simp; omega)) _ | refine below_drawn ?_ | refine below_drawnN ?_ _ | refine below_new ?_ _))))
  have a1_w3 : w3.cell? ⟨w2.heap.size, 1, none⟩ = some (.int .i64 y) := below_cell_of hb_w3 (by first | (go_simp; done) | (refine below_cell_of (w := w2) ?_ (by first | assumption | (go_simp; done)); (repeat (first | assumption | exact Below.refl _ _ | refine below_set ?_ (by first | omega | (simp; done) | (simp; omega)) _ | refine below_drawn ?_ | refine below_drawnN ?_ _ | refine below_new ?_ _))))
  go_wp2_with fail
  refine (rvalid_any x y _).mono ?_
  rw [HV.out]
  rintro e w4 ⟨rfl, hb_w4⟩
  have hB_w4 : Below w.heap.size w w4 := below_on (by first | ((repeat (first | assumption | exact Below.refl _ _ | refine below_set ?_ (by first | omega | (simp; done) | (simp; omega)) _ | refine below_drawn ?_ | refine below_drawnN ?_ _ | refine below_new ?_ _)); done) | (refine below_on hB_w3 ?_; (repeat (first | assumption | exact Below.refl _ _ | refine below_set ?_ (by first | omega | (simp; done) | (simp; omega)) _ | refine below_drawn ?_ | refine below_drawnN ?_ _ | refine below_new ?_ _)))) hb_w4
  have hz_w4 := hb_w4.size
  try simp only [World.size_setCell] at hz_w4
  try simp only [World.size_drew] at hz_w4
  try simp only [World.size_drewN] at hz_w4
  try simp only [World.size_alloc] at hz_w4
  try simp only [World.size_setCell] at hz_w4
  try simp only [World.size_drew] at hz_w4
  try simp only [World.size_drewN] at hz_w4
  try simp only [World.size_alloc] at hz_w4
  have hl0_w4 : w2.heap.size < w4.heap.size := by omega
  have hl1_w4 : w3.heap.size < w4.heap.size := by omega
  have a0_w4 : w4.cell? ⟨w2.heap.size, 0, none⟩ = some (.int .i64 x) := below_cell_of hb_w4 (by first | (go_simp; done) | (refine below_cell_of (w := w3) ?_ (by first | assumption | (go_simp; done)); (repeat (first | assumption | exact Below.refl _ _ | refine below_set ?_ (by first | omega | (simp; done) | (simp; omega)) _ | refine below_drawn ?_ | refine below_drawnN ?_ _ | refine below_new ?_ _))))
  have a1_w4 : w4.cell? ⟨w2.heap.size, 1, none⟩ = some (.int .i64 y) := below_cell_of hb_w4 (by first | (go_simp; done) | (refine below_cell_of (w := w3) ?_ (by first | assumption | (go_simp; done)); (repeat (first | assumption | exact Below.refl _ _ | refine below_set ?_ (by first | omega | (simp; done) | (simp; omega)) _ | refine below_drawn ?_ | refine below_drawnN ?_ _ | refine below_new ?_ _))))
  have b0_w4 : w4.cell? ⟨w3.heap.size, 0, none⟩ = some (.int .i64 x) := below_cell_of hb_w4 (by first | (go_simp; done) | (refine below_cell_of (w := w3) ?_ (by first | assumption | (go_simp; done)); (repeat (first | assumption | exact Below.refl _ _ | refine below_set ?_ (by first | omega | (simp; done) | (simp; omega)) _ | refine below_drawn ?_ | refine below_drawnN ?_ _ | refine below_new ?_ _))))
  have b1_w4 : w4.cell? ⟨w3.heap.size, 1, none⟩ = some (.int .i64 y) := below_cell_of hb_w4 (by first | (go_simp; done) | (refine below_cell_of (w := w3) ?_ (by first | assumption | (go_simp; done)); (repeat (first | assumption | exact Below.refl _ _ | refine below_set ?_ (by first | omega | (simp; done) | (simp; omega)) _ | refine below_drawn ?_ | refine below_drawnN ?_ _ | refine below_new ?_ _))))
  go_wp2_with fail
  refine (valid_any x y _ (by omega)).mono ?_
  rw [HV.out]
  rintro e w5 ⟨rfl, hb_w5⟩
  have hB_w5 : Below w.heap.size w w5 := below_on (by first | ((repeat (first | assumption | exact Below.refl _ _ | refine below_set ?_ (by first | omega | (simp; done) | (simp; omega)) _ | refine below_drawn ?_ | refine below_drawnN ?_ _ | refine below_new ?_ _)); done) | (refine below_on hB_w4 ?_; (repeat (first | assumption | exact Below.refl _ _ | refine below_set ?_ (by first | omega | (simp; done) | (simp; omega)) _ | refine below_drawn ?_ | refine below_drawnN ?_ _ | refine below_new ?_ _)))) hb_w5
  have hz_w5 := hb_w5.size
  try simp only [World.size_setCell] at hz_w5
  try simp only [World.size_drew] at hz_w5
  try simp only [World.size_drewN] at hz_w5
  try simp only [World.size_alloc] at hz_w5
  try simp only [World.size_setCell] at hz_w5
  try simp only [World.size_drew] at hz_w5
  try simp only [World.size_drewN] at hz_w5
  try simp only [World.size_alloc] at hz_w5
  have hl0_w5 : w2.heap.size < w5.heap.size := by omega
  have hl1_w5 : w3.heap.size < w5.heap.size := by omega
  have a0_w5 : w5.cell? ⟨w2.heap.size, 0, none⟩ = some (.int .i64 x) := below_cell_of hb_w5 (by first | (go_simp; done) | (refine below_cell_of (w := w4) ?_ (by first | assumption | (go_simp; done)); (repeat (first | assumption | exact Below.refl _ _ | refine below_set ?_ (by first | omega | (simp; done) | (simp; omega)) _ | refine below_drawn ?_ | refine below_drawnN ?_ _ | refine below_new ?_ _))))
  have a1_w5 : w5.cell? ⟨w2.heap.size, 1, none⟩ = some (.int .i64 y) := below_cell_of hb_w5 (by first | (go_simp; done) | (refine below_cell_of (w := w4) ?_ (by first | assumption | (go_simp; done)); (repeat (first | assumption | exact Below.refl _ _ | refine below_set ?_ (by first | omega | (simp; done) | (simp; omega)) _ | refine below_drawn ?_ | refine below_drawnN ?_ _ | refine below_new ?_ _))))
  have b0_w5 : w5.cell? ⟨w3.heap.size, 0, none⟩ = some (.int .i64 x) := below_cell_of hb_w5 (by first | (go_simp; done) | (refine below_cell_of (w := w4) ?_ (by first | assumption | (go_simp; done)); (repeat (first | assumption | exact Below.refl _ _ | refine below_set ?_ (by first | omega | (simp; done) | (simp; omega)) _ | refine below_drawn ?_ | refine below_drawnN ?_ _ | refine below_new ?_ _))))
  have b1_w5 : w5.cell? ⟨w3.heap.size, 1, none⟩ = some (.int .i64 y) := below_cell_of hb_w5 (by first | (go_simp; done) | (refine below_cell_of (w := w4) ?_ (by first | assumption | (go_simp; done)); (repeat (first | assumption | exact Below.refl _ _ | refine below_set ?_ (by first | omega | (simp; done) | (simp; omega)) _ | refine below_drawn ?_ | refine below_drawnN ?_ _ | refine below_new ?_ _))))
  go_wp2
  go_ret
  exact ⟨rfl, by (repeat (first | assumption | exact Below.refl _ _ | refine below_set ?_ (by first | omega | (simp; done) | (simp; omega)) _ | refine below_drawn ?_ | refine below_drawnN ?_ _ | refine below_new ?_ _))⟩
theorem low_entry (num den k : Int) (w : World) : Calls Try.prog 8 #[.int .i64 num, .int .i64 den, .int .i64 k] w fun e w' => e = .returned (.bool true) ∧ Below w.heap.size w w' := by
  by_cases h : num < -1000000 ∨ 1000000 < num ∨ den < -1000000 ∨ 1000000 < den ∨ k < -1000000 ∨ 1000000 < k ∨ k = 0
  · exact low_bad num den k w h
  · by_cases hd : den = 0
    · have m := Rt.abs_mul (a := num) (b := k) (x := 1000000) (y := 1000000) (by omega) (by omega) (by omega) (by omega) (by omega) (by omega)
      exact low_null num den k w (by omega) (by omega) (by omega) (by omega) (by omega) (by omega) (by omega) hd (Rt.new_zero (by omega) (by omega) rfl) (Rt.new_zero (by omega) (by omega) rfl)
    · obtain ⟨x, y, h1, h2, h3, h4, h5, h6, h7, h8⟩ := Rt.lowest (n := num) (d := den) (b := k) (by omega) (by omega) (by omega) (by omega) (by omega) (by omega) (by omega) hd
      exact low_good num den k x y w (by omega) (by omega) (by omega) (by omega) (by omega) (by omega) (by omega) hd h1 h2 h3 h4 h5 h6 h7 h8
end Go.Proofs.Ytjnjokkhkfdaiaa
