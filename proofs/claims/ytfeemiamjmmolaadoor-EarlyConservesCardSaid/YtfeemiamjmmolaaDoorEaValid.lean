/- Valid queues of package early: the reference's test. -/
import Derived.Test.YtfeemiamjmmolaaDoorEaList
import Derived.Test.YtfeemiamjmmolaaDoorQuLs
namespace Go.Proofs.YtfeemiamjmmolaaDoor
open Go.RowKit

/-- What makes a queue valid, beyond its form. -/
structure QOk (A B C room v0 v7 : Int) (xs : List Ea.Item) : Prop where
  a0 : 1 ≤ A
  ab : A < B
  b1 : B ≤ 500
  c0 : 0 ≤ C
  c1 : C ≤ 10
  r0 : 1 ≤ room
  r1 : room ≤ 500
  t0 : 0 ≤ v7
  t1 : v7 ≤ 10000000
  w0 : 0 ≤ v0
  w1 : v0 ≤ 512000
  len : (xs.length : Int) ≤ room
  list : Ea.listOk xs v7
/-- What the reference's test says of a queue. -/
def VOk (w : World) (kind A B C room : Int) (la : Option Addr) (ln : Nat) (v0 v1 v2 v3 v4 v5 v6 v7 : Int) : Prop :=
  kind = 2 ∧ v1 = 0 ∧ v2 = 0 ∧ v3 = 0 ∧ v4 = 0 ∧ v5 = 0 ∧ v6 = 0 ∧ ln = 1 ∧ ∃ (ad : Addr) (a : Option Addr) (n c : Nat) (xs : List Ea.Item), la = some ad ∧ w.cell? ad = some (.slice a n c) ∧ RdQ w a n xs ∧ (n : Int) ≤ 9223372036854775807 ∧ QOk A B C room v0 v7 xs
set_option maxRecDepth 100000 in
set_option maxHeartbeats 4000000 in
theorem rvalid_any (kind A B C room : Int) (la : Option Addr) (ln lc : Nat) (v0 v1 v2 v3 v4 v5 v6 v7 : Int) (seed : Int) (w : World) (hL : RdLs w la ln) :
    Calls Tryd.prog 14 #[.agg #[.int .i64 kind, .int .i64 A, .int .i64 B, .int .i64 C, .int .i64 room, .slice la ln lc, .int .i64 v0, .int .i64 v1, .int .i64 v2, .int .i64 v3, .int .i64 v4, .int .i64 v5, .int .i64 v6, .int .i64 v7, .int .u64 seed]] w fun e w' => Says w (VOk w kind A B C room la ln v0 v1 v2 v3 v4 v5 v6 v7) e w' := by
  have HL := Lib.hid hL
  clear hL
  go_enter Tryd.func14, Tryd.ntmps14
  by_cases hshape : kind = 2 ∧ 1 ≤ A ∧ A < B ∧ B ≤ 500 ∧ 0 ≤ C ∧ C ≤ 10 ∧ 1 ≤ room ∧ room ≤ 500 ∧ (ln : Int) = 1
  · obtain ⟨rfl, a0, ab, b1, c0, c1, r0, r1, hln⟩ := hshape
    obtain rfl : ln = 1 := by omega
    obtain ⟨ad, a, n, c, xs, rfl, hc, hr, hn⟩ := HL.out 0 (by omega)
    rw [ad_add_zero] at hc
    have hlt := World.block_lt_of_cell? _ _ hc
    have HR := Lib.hid hr
    have HXL := Lib.hid hr.1
    clear hr
    have dA : decide (A < 1) = false := decide_eq_false (by omega)
    have dB : decide (B ≤ A) = false := decide_eq_false (by omega)
    have dB' : decide (500 < B) = false := decide_eq_false (by omega)
    have dC : decide (C < 0) = false := decide_eq_false (by omega)
    have dC' : decide (10 < C) = false := decide_eq_false (by omega)
    have dR : decide (room < 1) = false := decide_eq_false (by omega)
    have dR' : decide (500 < room) = false := decide_eq_false (by omega)
    go_wp2
    refine wp_loop_rounds 7 ?_
    rw [rounds_succ]
    by_cases e1 : v1 = 0
    rotate_left
    · go_wp2
      go_ret
      exact says_no (below_new (below_new (Below.refl _ _) _) _)
    subst e1
    go_wp2
    rw [rounds_succ]
    by_cases e2 : v2 = 0
    rotate_left
    · go_wp2
      go_ret
      exact says_no (below_new (below_new (Below.refl _ _) _) _)
    subst e2
    go_wp2
    rw [rounds_succ]
    by_cases e3 : v3 = 0
    rotate_left
    · go_wp2
      go_ret
      exact says_no (below_new (below_new (Below.refl _ _) _) _)
    subst e3
    go_wp2
    rw [rounds_succ]
    by_cases e4 : v4 = 0
    rotate_left
    · go_wp2
      go_ret
      exact says_no (below_new (below_new (Below.refl _ _) _) _)
    subst e4
    go_wp2
    rw [rounds_succ]
    by_cases e5 : v5 = 0
    rotate_left
    · go_wp2
      go_ret
      exact says_no (below_new (below_new (Below.refl _ _) _) _)
    subst e5
    go_wp2
    rw [rounds_succ]
    by_cases e6 : v6 = 0
    rotate_left
    · go_wp2
      go_ret
      exact says_no (below_new (below_new (Below.refl _ _) _) _)
    subst e6
    go_wp2
    rw [rounds_succ]
    go_wp2_with fail
    obtain ⟨bt, hbt⟩ : ∃ b, decide (0 ≤ v7 ∧ v7 ≤ 10000000) = b := ⟨_, rfl⟩
    refine (time_any v7 _).mono ?_
    rw [hbt]
    rintro e w1 ⟨rfl, rfl⟩
    have HBT := Lib.hid hbt
    clear hbt
    go_wp2
    refine wp_region_held_drew (S := (fun W => W.cell? ⟨w.heap.size, 5, none⟩ = some (.slice (some ad) 1 lc) ∧ W.cell? ⟨w.heap.size, 13, none⟩ = some (.int .i64 v7) ∧ W.cell? ad = some (.slice a n c))) (by kernel_rfl) ?_ (fun hHeld => ?_)
    · exact ⟨by go_simp, by go_simp, below_cell_of (below_drawn (below_new (below_new (Below.refl _ _) _) _)) hc⟩
    refine wpAnyH_take (i := 0) (v := ?_) rfl (by kernel_rfl) (by kernel_rfl) (by kernel_rfl) (fun _ _ _ h => h) (Or.inl ⟨by rfl, ?_⟩) hHeld ?_
    rotate_left
    · intro wS hSw; obtain ⟨hS0, hS1, hS2⟩ := hSw; go_simp; try with_reducible rfl
    try go_simp
    refine wpAnyH_take (i := 1) (v := ?_) rfl (by kernel_rfl) (by kernel_rfl) (by kernel_rfl) (fun _ _ _ h => h) (Or.inl ⟨by rfl, ?_⟩) hHeld ?_
    rotate_left
    · intro wS hSw; obtain ⟨hS0, hS1, hS2⟩ := hSw; go_simp; try with_reducible rfl
    try go_simp
    refine wpAnyH_take (i := 2) (v := ?_) rfl (by kernel_rfl) (by kernel_rfl) (by kernel_rfl) (fun _ _ _ h => h) (Or.inl ⟨by rfl, ?_⟩) hHeld ?_
    rotate_left
    · intro wS hSw; obtain ⟨hS0, hS1, hS2⟩ := hSw; go_simp; try with_reducible rfl
    try go_simp
    refine wpAnyH_take (i := 3) (v := ?_) rfl (by kernel_rfl) (by kernel_rfl) (by kernel_rfl) (fun _ _ _ h => h) (Or.inl ⟨by rfl, ?_⟩) hHeld ?_
    rotate_left
    · intro wS hSw; obtain ⟨hS0, hS1, hS2⟩ := hSw; go_simp; try with_reducible rfl
    try go_simp
    refine wpAnyH_take (i := 4) (v := ?_) rfl (by kernel_rfl) (by kernel_rfl) (by kernel_rfl) (fun _ _ _ h => h) (Or.inl ⟨by rfl, ?_⟩) hHeld ?_
    rotate_left
    · intro wS hSw; obtain ⟨hS0, hS1, hS2⟩ := hSw; go_simp; try with_reducible rfl
    try go_simp
    refine wpAnyH_take (i := 5) (v := ?_) rfl (by kernel_rfl) (by kernel_rfl) (by kernel_rfl) (fun _ _ _ h => h) (Or.inl ⟨by rfl, ?_⟩) hHeld ?_
    rotate_left
    · intro wS hSw; obtain ⟨hS0, hS1, hS2⟩ := hSw; go_simp; try with_reducible rfl
    try go_simp
    refine wpAnyH_take (i := 6) (v := ?_) rfl (by kernel_rfl) (by kernel_rfl) (by kernel_rfl) (fun _ _ _ h => h) (Or.inl ⟨by rfl, ?_⟩) hHeld ?_
    rotate_left
    · intro wS hSw; obtain ⟨hS0, hS1, hS2⟩ := hSw; go_simp; try with_reducible rfl
    try go_simp
    refine wpAnyH_ready (rs := [7]) (by kernel_rfl) (by simp) ?_
    refine AllReadyH.cons rfl (fun K hK => ?_) AllReadyH.nil
    go_simp
    refine (rlist_any a n c xs v7 _ (HR.out.below (below_drawn (below_new (below_new (Below.refl _ _) _) _))) hn).mono ?_
    rintro e w5 ⟨⟨bl, rfl, hbl⟩, hb5⟩
    refine hK.out _ _ ?_ (fun hHeld => ?_)
    · exact ⟨below_cell_of hb5 (by go_simp), below_cell_of hb5 (by go_simp), below_cell_of hb5 (below_cell_of (below_drawn (below_new (below_new (Below.refl _ _) _) _)) hc)⟩
    clear hK K
    try go_simp
    refine wpAnyH_take (i := 8) (v := ?_) rfl (by kernel_rfl) (by kernel_rfl) (by kernel_rfl) (fun _ _ _ h => h) (Or.inl ⟨by rfl, ?_⟩) hHeld ?_
    rotate_left
    · intro wS hSw; obtain ⟨hS0, hS1, hS2⟩ := hSw; go_simp; try with_reducible rfl
    try go_simp
    refine wpAnyH_done (by kernel_rfl) ?_ _
    clear hHeld
    go_wp2
    have HB5 := Lib.hid (below_on (below_drawn (below_new (below_new (Below.refl w.heap.size w) _) _)) hb5)
    have m4 := below_cell_of hb5 (a := ⟨w.heap.size, 4, none⟩) (v := .int .i64 room) (by go_simp)
    have m5 := below_cell_of hb5 (a := ⟨w.heap.size, 5, none⟩) (v := .slice (some ad) 1 lc) (by go_simp)
    have m6 := below_cell_of hb5 (a := ⟨w.heap.size, 6, none⟩) (v := .int .i64 v0) (by go_simp)
    have mad := below_cell_of hb5 (below_cell_of (below_drawn (below_new (below_new (Below.refl _ _) _) _)) hc)
    have HBL := Lib.hid hbl
    clear hb5 hbl
    cases bt with
    | false =>
      go_quiet (fail)
      go_wp2
      go_ret
      exact says_no (below_drawnN HB5.out _)
    | true =>
      cases bl with
      | false =>
        go_quiet (fail)
        go_wp2
        go_ret
        exact says_no (below_drawnN HB5.out _)
      | true =>
        by_cases hv0 : v0 < 0
        · have d0 : decide (0 ≤ v0) = false := decide_eq_false (by omega)
          go_quiet (fail)
          go_wp2
          go_ret
          exact says_no (below_drawnN HB5.out _)
        · have d0 : 0 ≤ v0 := by omega
          by_cases hv1 : 512000 < v0
          · have d1 : decide (v0 ≤ 512000) = false := decide_eq_false (by omega)
            go_quiet (fail)
            go_wp2
            go_ret
            exact says_no (below_drawnN HB5.out _)
          · have d1 : v0 ≤ 512000 := by omega
            by_cases hlr : room < (n : Int)
            · have d2 : decide ((n : Int) ≤ room) = false := decide_eq_false (by omega)
              go_quiet (fail)
              go_wp2
              go_ret
              exact says_no (below_drawnN HB5.out _)
            · have d2 : (n : Int) ≤ room := by omega
              go_quiet (fail)
              go_wp2
              go_ret
              refine ⟨⟨true, rfl, fun _ => ⟨rfl, rfl, rfl, rfl, rfl, rfl, rfl, rfl, ad, a, n, c, xs, rfl, hc, HR.out, hn, ?_⟩⟩, below_drawnN HB5.out _⟩
              obtain ⟨t0, t1⟩ := of_decide_eq_true HBT.out
              exact ⟨a0, ab, b1, c0, c1, r0, r1, t0, t1, d0, d1, by rw [HXL.out]; exact d2, HBL.out.1 (by first | rfl | trivial)⟩
  · go_wp2
    all_goals first
      | (go_ret; exact says_no (below_new (below_new (Below.refl _ _) _) _))
      | (exfalso; simp only [bne_eq_false_iff_eq] at *; omega)

set_option maxRecDepth 100000 in
set_option maxHeartbeats 4000000 in
theorem rvalid_yes (A B C room : Int) (ad : Addr) (lc : Nat) (v0 v7 : Int) (seed : Int) (a : Option Addr) (n c : Nat) (xs : List Ea.Item) (w : World) (hc : w.cell? ad = some (.slice a n c)) (hr : RdQ w a n xs) (hn : (n : Int) ≤ 9223372036854775807) (hq : QOk A B C room v0 v7 xs) :
    Calls Tryd.prog 14 #[.agg #[.int .i64 2, .int .i64 A, .int .i64 B, .int .i64 C, .int .i64 room, .slice (some ad) 1 lc, .int .i64 v0, .int .i64 0, .int .i64 0, .int .i64 0, .int .i64 0, .int .i64 0, .int .i64 0, .int .i64 v7, .int .u64 seed]] w fun e w' => e = .returned (.bool true) ∧ Below w.heap.size w w' := by
  obtain ⟨a0, ab, b1, c0, c1, r0, r1, t0, t1, d0, d1, hlen, hlist⟩ := hq
  have hlt := World.block_lt_of_cell? _ _ hc
  have HR := Lib.hid hr
  have HXL := Lib.hid hr.1
  have HLI := Lib.hid hlist
  have d2 : (n : Int) ≤ room := by rw [hr.1] at hlen; exact hlen
  clear hr hlist hlen
  have dA : decide (A < 1) = false := decide_eq_false (by omega)
  have dB : decide (B ≤ A) = false := decide_eq_false (by omega)
  have dB' : decide (500 < B) = false := decide_eq_false (by omega)
  have dC : decide (C < 0) = false := decide_eq_false (by omega)
  have dC' : decide (10 < C) = false := decide_eq_false (by omega)
  have dR : decide (room < 1) = false := decide_eq_false (by omega)
  have dR' : decide (500 < room) = false := decide_eq_false (by omega)
  go_enter Tryd.func14, Tryd.ntmps14
  go_wp2
  refine wp_loop_rounds 7 ?_
  rw [rounds_succ]
  go_wp2
  rw [rounds_succ]
  go_wp2
  rw [rounds_succ]
  go_wp2
  rw [rounds_succ]
  go_wp2
  rw [rounds_succ]
  go_wp2
  rw [rounds_succ]
  go_wp2
  rw [rounds_succ]
  go_wp2_with fail
  refine (time_any v7 _).mono ?_
  rw [show decide (0 ≤ v7 ∧ v7 ≤ 10000000) = true from decide_eq_true ⟨t0, t1⟩]
  rintro e w1 ⟨rfl, rfl⟩
  go_wp2
  refine wp_region_held_drew (S := (fun W => W.cell? ⟨w.heap.size, 5, none⟩ = some (.slice (some ad) 1 lc) ∧ W.cell? ⟨w.heap.size, 13, none⟩ = some (.int .i64 v7) ∧ W.cell? ad = some (.slice a n c))) (by kernel_rfl) ?_ (fun hHeld => ?_)
  · exact ⟨by go_simp, by go_simp, below_cell_of (below_drawn (below_new (below_new (Below.refl _ _) _) _)) hc⟩
  refine wpAnyH_take (i := 0) (v := ?_) rfl (by kernel_rfl) (by kernel_rfl) (by kernel_rfl) (fun _ _ _ h => h) (Or.inl ⟨by rfl, ?_⟩) hHeld ?_
  rotate_left
  · intro wS hSw; obtain ⟨hS0, hS1, hS2⟩ := hSw; go_simp; try with_reducible rfl
  try go_simp
  refine wpAnyH_take (i := 1) (v := ?_) rfl (by kernel_rfl) (by kernel_rfl) (by kernel_rfl) (fun _ _ _ h => h) (Or.inl ⟨by rfl, ?_⟩) hHeld ?_
  rotate_left
  · intro wS hSw; obtain ⟨hS0, hS1, hS2⟩ := hSw; go_simp; try with_reducible rfl
  try go_simp
  refine wpAnyH_take (i := 2) (v := ?_) rfl (by kernel_rfl) (by kernel_rfl) (by kernel_rfl) (fun _ _ _ h => h) (Or.inl ⟨by rfl, ?_⟩) hHeld ?_
  rotate_left
  · intro wS hSw; obtain ⟨hS0, hS1, hS2⟩ := hSw; go_simp; try with_reducible rfl
  try go_simp
  refine wpAnyH_take (i := 3) (v := ?_) rfl (by kernel_rfl) (by kernel_rfl) (by kernel_rfl) (fun _ _ _ h => h) (Or.inl ⟨by rfl, ?_⟩) hHeld ?_
  rotate_left
  · intro wS hSw; obtain ⟨hS0, hS1, hS2⟩ := hSw; go_simp; try with_reducible rfl
  try go_simp
  refine wpAnyH_take (i := 4) (v := ?_) rfl (by kernel_rfl) (by kernel_rfl) (by kernel_rfl) (fun _ _ _ h => h) (Or.inl ⟨by rfl, ?_⟩) hHeld ?_
  rotate_left
  · intro wS hSw; obtain ⟨hS0, hS1, hS2⟩ := hSw; go_simp; try with_reducible rfl
  try go_simp
  refine wpAnyH_take (i := 5) (v := ?_) rfl (by kernel_rfl) (by kernel_rfl) (by kernel_rfl) (fun _ _ _ h => h) (Or.inl ⟨by rfl, ?_⟩) hHeld ?_
  rotate_left
  · intro wS hSw; obtain ⟨hS0, hS1, hS2⟩ := hSw; go_simp; try with_reducible rfl
  try go_simp
  refine wpAnyH_take (i := 6) (v := ?_) rfl (by kernel_rfl) (by kernel_rfl) (by kernel_rfl) (fun _ _ _ h => h) (Or.inl ⟨by rfl, ?_⟩) hHeld ?_
  rotate_left
  · intro wS hSw; obtain ⟨hS0, hS1, hS2⟩ := hSw; go_simp; try with_reducible rfl
  try go_simp
  refine wpAnyH_ready (rs := [7]) (by kernel_rfl) (by simp) ?_
  refine AllReadyH.cons rfl (fun K hK => ?_) AllReadyH.nil
  go_simp
  refine (rlist_any a n c xs v7 _ (HR.out.below (below_drawn (below_new (below_new (Below.refl _ _) _) _))) hn).mono ?_
  rintro e w5 ⟨⟨bl, rfl, hbl⟩, hb5⟩
  refine hK.out _ _ ?_ (fun hHeld => ?_)
  · exact ⟨below_cell_of hb5 (by go_simp), below_cell_of hb5 (by go_simp), below_cell_of hb5 (below_cell_of (below_drawn (below_new (below_new (Below.refl _ _) _) _)) hc)⟩
  clear hK K
  try go_simp
  refine wpAnyH_take (i := 8) (v := ?_) rfl (by kernel_rfl) (by kernel_rfl) (by kernel_rfl) (fun _ _ _ h => h) (Or.inl ⟨by rfl, ?_⟩) hHeld ?_
  rotate_left
  · intro wS hSw; obtain ⟨hS0, hS1, hS2⟩ := hSw; go_simp; try with_reducible rfl
  try go_simp
  refine wpAnyH_done (by kernel_rfl) ?_ _
  obtain rfl : bl = true := hbl.2 HLI.out
  clear hbl
  clear hHeld
  go_wp2
  have HB5 := Lib.hid (below_on (below_drawn (below_new (below_new (Below.refl w.heap.size w) _) _)) hb5)
  have m4 := below_cell_of hb5 (a := ⟨w.heap.size, 4, none⟩) (v := .int .i64 room) (by go_simp)
  have m5 := below_cell_of hb5 (a := ⟨w.heap.size, 5, none⟩) (v := .slice (some ad) 1 lc) (by go_simp)
  have m6 := below_cell_of hb5 (a := ⟨w.heap.size, 6, none⟩) (v := .int .i64 v0) (by go_simp)
  have mad := below_cell_of hb5 (below_cell_of (below_drawn (below_new (below_new (Below.refl _ _) _) _)) hc)
  clear hb5
  go_quiet (fail)
  go_wp2
  go_ret
  exact ⟨rfl, below_drawnN HB5.out _⟩

/-- The lists of a queue are few and short. -/
theorem few_any (kind A B C room : Int) (la : Option Addr) (ln lc : Nat) (v0 v1 v2 v3 v4 v5 v6 v7 : Int) (seed : Int) (w : World) (hL : RdLs w la ln) (hln : (ln : Int) ≤ 9223372036854775807) :
    Calls Tryd.prog 18 #[.agg #[.int .i64 kind, .int .i64 A, .int .i64 B, .int .i64 C, .int .i64 room, .slice la ln lc, .int .i64 v0, .int .i64 v1, .int .i64 v2, .int .i64 v3, .int .i64 v4, .int .i64 v5, .int .i64 v6, .int .i64 v7, .int .u64 seed]] w fun e w' => Says w (ln ≤ 20) e w' := by
  have HL := Lib.hid hL
  clear hL
  go_enter Tryd.func18, Tryd.ntmps18
  go_wp2
  go_loopw [3] (fun i wr => ∃ k : Nat, k ≤ ln ∧ i = .int .i64 k ∧ wr = w.alloc (.cells #[.int .i64 kind, .int .i64 A, .int .i64 B, .int .i64 C, .int .i64 room, .slice la ln lc, .int .i64 v0, .int .i64 v1, .int .i64 v2, .int .i64 v3, .int .i64 v4, .int .i64 v5, .int .i64 v6, .int .i64 v7, .int .u64 seed] 28)) (fun i _ => ln - (intOf i).toNat)
  case atStart => exact ⟨0, Nat.zero_le _, rfl, rfl⟩
  case round =>
    obtain ⟨k, hk, rfl, rfl⟩ := hrel
    by_cases hlt : k < ln
    · obtain ⟨ad, a, n, c, xs, rfl, hc, hr, hn⟩ := HL.out k hlt
      have hlb := World.block_lt_of_cell? _ _ hc
      have hca : ∀ o, (w.alloc o).cell? (ad.add k) = some (.slice a n c) := fun o => below_cell_of (below_new (Below.refl _ _) o) hc
      by_cases h6 : 600 < (n : Int)
      · go_wp2
        go_ret
        exact says_no (below_new (Below.refl _ _) _)
      · have h6' : decide (600 < (n : Int)) = false := decide_eq_false h6
        go_wp2
        go_roundw
        case rel => exact ⟨k + 1, by omega, by go_num, by first | rfl | trivial⟩
        case measure => simp [intOf]; omega
    · obtain rfl : k = ln := by omega
      go_wp2
      go_ret
      exact ⟨⟨_, rfl, fun h => by simp at h; omega⟩, below_new (Below.refl _ _) _⟩
set_option maxRecDepth 100000 in
set_option maxHeartbeats 4000000 in
theorem usable_any (kind A B C room : Int) (la : Option Addr) (ln lc : Nat) (v0 v1 v2 v3 v4 v5 v6 v7 : Int) (seed : Int) (w : World) (hL : RdLs w la ln) (hln : (ln : Int) ≤ 9223372036854775807) :
    Calls Tryd.prog 9 #[.agg #[.int .i64 kind, .int .i64 A, .int .i64 B, .int .i64 C, .int .i64 room, .slice la ln lc, .int .i64 v0, .int .i64 v1, .int .i64 v2, .int .i64 v3, .int .i64 v4, .int .i64 v5, .int .i64 v6, .int .i64 v7, .int .u64 seed]] w fun e w' => Says w (VOk w kind A B C room la ln v0 v1 v2 v3 v4 v5 v6 v7) e w' := by
  have HL := Lib.hid hL
  clear hL
  go_enter Tryd.func9, Tryd.ntmps9
  go_wp2_with fail
  refine (few_any kind A B C room la ln lc v0 v1 v2 v3 v4 v5 v6 v7 seed _ (HL.out.below (below_new (Below.refl _ _) _)) hln).mono ?_
  rintro e w1 ⟨⟨b1, rfl, _⟩, hb1⟩
  have HB1 := Lib.hid (below_on (below_new (Below.refl w.heap.size w) _) hb1)
  have hr1 := rangeAt_below (b := w.heap.size) (o := 0) (cs := [.int .i64 kind, .int .i64 A, .int .i64 B, .int .i64 C, .int .i64 room, .slice la ln lc, .int .i64 v0, .int .i64 v1, .int .i64 v2, .int .i64 v3, .int .i64 v4, .int .i64 v5, .int .i64 v6, .int .i64 v7, .int .u64 seed]) (Blk.new w #[.int .i64 kind, .int .i64 A, .int .i64 B, .int .i64 C, .int .i64 room, .slice la ln lc, .int .i64 v0, .int .i64 v1, .int .i64 v2, .int .i64 v3, .int .i64 v4, .int .i64 v5, .int .i64 v6, .int .i64 v7, .int .u64 seed] 28).range hb1
  have HR1 := Lib.hid hr1
  clear hb1 hr1
  cases b1 with
  | false =>
    go_wp2
    go_ret
    exact says_no HB1.out
  | true =>
    have k0 := range_cell HR1.out 0 rfl
    have k1 := range_cell HR1.out 1 rfl
    have k2 := range_cell HR1.out 2 rfl
    have k3 := range_cell HR1.out 3 rfl
    have k4 := range_cell HR1.out 4 rfl
    have k5 := range_cell HR1.out 5 rfl
    have k6 := range_cell HR1.out 6 rfl
    have k7 := range_cell HR1.out 7 rfl
    have k8 := range_cell HR1.out 8 rfl
    have k9 := range_cell HR1.out 9 rfl
    have k10 := range_cell HR1.out 10 rfl
    have k11 := range_cell HR1.out 11 rfl
    have k12 := range_cell HR1.out 12 rfl
    have k13 := range_cell HR1.out 13 rfl
    have k14 := range_cell HR1.out 14 rfl
    go_wp2_with fail
    refine (rvalid_any kind A B C room la ln lc v0 v1 v2 v3 v4 v5 v6 v7 seed _ (HL.out.below HB1.out)).mono ?_
    rintro e w2 ⟨⟨b2, rfl, hb2⟩, hbel⟩
    have HB2 := Lib.hid hb2
    have HBEL := Lib.hid hbel
    clear hb2 hbel
    go_wp2
    go_ret
    refine ⟨⟨b2, rfl, fun h => ?_⟩, below_on HB1.out HBEL.out⟩
    obtain ⟨rfl, rfl, rfl, rfl, rfl, rfl, rfl, rfl, ad, a, n, c, xs, rfl, hc, hr, hn, hq⟩ := HB2.out h
    obtain ⟨ad', a', n', c', xs', e, hc', hr', hn'⟩ := HL.out 0 (by omega)
    injection e with e
    subst e
    rw [ad_add_zero] at hc'
    have := (below_cell_of HB1.out hc').symm.trans hc
    injection this with this
    injection this with e1 e2 e3
    subst e1 e2 e3
    obtain rfl := rdQ_unique hr (hr'.below HB1.out)
    exact ⟨rfl, rfl, rfl, rfl, rfl, rfl, rfl, rfl, ad, a', n', c', xs, rfl, hc', hr', hn, hq⟩
end Go.Proofs.YtfeemiamjmmolaaDoor
