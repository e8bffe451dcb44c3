/- The closure of a trip: one link is passed. -/
import Derived.Test.YtjjplcjinhcpiaaRoThrough
import Derived.Deep.RegionHeld
namespace Go.Proofs.Ytjjplcjinhcpiaa
open Go.RowKit

/-- A link's value: the rate, the delay, and 25 more cells. -/
abbrev linkVal (r d : Int) (X : Nat → Value) : Value := .agg #[.int .i64 r, .int .i64 d, X 2, X 3, X 4, X 5, X 6, X 7, X 8, X 9, X 10, X 11, X 12, X 13, X 14, X 15, X 16, X 17, X 18, X 19, X 20, X 21, X 22, X 23, X 24, X 25, X 26]
abbrev linkCells (r d : Int) (X : Nat → Value) : Array Value := #[.int .i64 r, .int .i64 d, X 2, X 3, X 4, X 5, X 6, X 7, X 8, X 9, X 10, X 11, X 12, X 13, X 14, X 15, X 16, X 17, X 18, X 19, X 20, X 21, X 22, X 23, X 24, X 25, X 26]

/-- Two cells are written, new blocks are laid: the rest stays. -/
structure Stay (Bf Bt : Nat) (w w' : World) : Prop where
  rest : ∀ a v, a.block ≠ Bf → a.block ≠ Bt → w.cell? a = some v → w'.cell? a = some v
  frz : ∀ a v, w.cell? a = some v → w'.frozen? a = w.frozen? a
  keeps : KeepsOthers w w'
  below : ∀ base w0, base ≤ w0.heap.size → base ≤ Bf → base ≤ Bt → Below base w0 w → Below base w0 w'
theorem Stay.refl (Bf Bt : Nat) (w : World) : Stay Bf Bt w w := ⟨fun _ _ _ _ h => h, fun _ _ _ => rfl, KeepsOthers.refl w, fun _ _ _ _ _ h => h⟩
theorem Stay.alloc {Bf Bt : Nat} {w W : World} (h : Stay Bf Bt w W) (o : Obj) : Stay Bf Bt w (W.alloc o) :=
  ⟨fun a v h1 h2 hc => below_cell_of (below_new (Below.refl _ _) o) (h.rest a v h1 h2 hc), fun a v hc => by
    have hlt := World.block_lt_of_cell? _ _ hc
    have hz := h.keeps.size
    have hb : Below W.heap.size W (W.alloc o) := below_new (Below.refl _ _) o
    exact (hb.frozen (by omega)).trans (h.frz a v hc), h.keeps.trans (KeepsOthers.alloc _ _), fun base w0 h0 h1 h2 hB => (h.below base w0 h0 h1 h2 hB).alloc (by have := (h.below base w0 h0 h1 h2 hB).size; omega) o⟩
theorem Stay.drew {Bf Bt : Nat} {w W : World} (h : Stay Bf Bt w W) : Stay Bf Bt w W.drew :=
  ⟨h.rest, h.frz, h.keeps.trans (KeepsOthers.drew _), fun base w0 h0 h1 h2 hB => below_drawn (h.below base w0 h0 h1 h2 hB)⟩
theorem Stay.set {Bf Bt : Nat} {w W : World} (h : Stay Bf Bt w W) {b : Nat} (hb : b = Bf ∨ b = Bt) (u : Value) : Stay Bf Bt w (W.setCell ⟨b, 0, none⟩ u) :=
  ⟨fun a v h1 h2 hc => cell_set_ne (h.rest a v h1 h2 hc) (by dsimp only; rcases hb with e | e <;> subst e <;> assumption), fun a v hc => by rw [World.frozen?_setCell]; exact h.frz a v hc, h.keeps.trans (KeepsOthers.setCell _ _ _),
    fun base w0 h0 h1 h2 hB => (h.below base w0 h0 h1 h2 hB).setCell (p := ⟨b, 0, none⟩) (by dsimp only; rcases hb with e | e <;> omega) u⟩

set_option maxRecDepth 100000 in
set_option maxHeartbeats 4000000 in
theorem pass_off (r d : Int) (X : Nat → Value) (Bf Bt Bs : Nat) (T S : Int) (w : World)  (cf : w.cell? ⟨Bf, 0, none⟩ = some (.bool false)) (ff : w.frozen? ⟨Bf, 0, none⟩ = false) (ct : w.cell? ⟨Bt, 0, none⟩ = some (.int .i64 T)) (_ft : w.frozen? ⟨Bt, 0, none⟩ = false) (cs : w.cell? ⟨Bs, 0, none⟩ = some (.int .i64 S)) (hft : Bf ≠ Bt) (hfs : Bf ≠ Bs) (hts : Bt ≠ Bs) :
    Calls Try.prog 23 #[linkVal r d X, .pointer (some ⟨Bf, 0, none⟩), .pointer (some ⟨Bt, 0, none⟩), .pointer (some ⟨Bs, 0, none⟩)] w fun e w' => (∃ v, e = .returned v) ∧ w'.cell? ⟨Bf, 0, none⟩ = some (.bool false) ∧ w'.cell? ⟨Bt, 0, none⟩ = some (.int .i64 T) ∧ Stay Bf Bt w w' := by
  have bf := World.block_lt_of_cell? _ _ cf
  have bt := World.block_lt_of_cell? _ _ ct
  have bs := World.block_lt_of_cell? _ _ cs
  simp only at bf bt bs
  go_enter Try.func23, Try.ntmps23
  go_wp2
  go_end0
  refine ⟨⟨_, rfl⟩, by go_simp, by first | (go_simp; done) | (go_simp; rfl), ?_⟩
  (repeat (first | exact Stay.refl _ _ _ | refine Stay.set ?_ (.inl rfl) _ | refine Stay.set ?_ (.inr rfl) _ | refine Stay.drew ?_ | refine Stay.alloc ?_ _))
set_option maxRecDepth 100000 in
set_option maxHeartbeats 4000000 in
theorem pass_rate (r d : Int) (X : Nat → Value) (Bf Bt Bs : Nat) (T S : Int) (w : World) (hr : Ro.inside r 1 1000000 = false) (cf : w.cell? ⟨Bf, 0, none⟩ = some (.bool true)) (ff : w.frozen? ⟨Bf, 0, none⟩ = false) (ct : w.cell? ⟨Bt, 0, none⟩ = some (.int .i64 T)) (_ft : w.frozen? ⟨Bt, 0, none⟩ = false) (cs : w.cell? ⟨Bs, 0, none⟩ = some (.int .i64 S)) (hft : Bf ≠ Bt) (hfs : Bf ≠ Bs) (hts : Bt ≠ Bs) :
    Calls Try.prog 23 #[linkVal r d X, .pointer (some ⟨Bf, 0, none⟩), .pointer (some ⟨Bt, 0, none⟩), .pointer (some ⟨Bs, 0, none⟩)] w fun e w' => (∃ v, e = .returned v) ∧ w'.cell? ⟨Bf, 0, none⟩ = some (.bool false) ∧ w'.cell? ⟨Bt, 0, none⟩ = some (.int .i64 T) ∧ Stay Bf Bt w w' := by
  have bf := World.block_lt_of_cell? _ _ cf
  have bt := World.block_lt_of_cell? _ _ ct
  have bs := World.block_lt_of_cell? _ _ cs
  simp only at bf bt bs
  have HR := Lib.hid hr
  clear hr
  go_enter Try.func23, Try.ntmps23
  go_wp2_with fail
  refine (inside_any r 1 1000000 _).mono ?_
  rw [HR.out]
  rintro e w1 ⟨rfl, rfl⟩
  go_wp2
  go_end0
  refine ⟨⟨_, rfl⟩, by go_simp, by first | (go_simp; done) | (go_simp; rfl), ?_⟩
  (repeat (first | exact Stay.refl _ _ _ | refine Stay.set ?_ (.inl rfl) _ | refine Stay.set ?_ (.inr rfl) _ | refine Stay.drew ?_ | refine Stay.alloc ?_ _))
set_option maxRecDepth 100000 in
set_option maxHeartbeats 4000000 in
theorem pass_delay (r d : Int) (X : Nat → Value) (Bf Bt Bs : Nat) (T S : Int) (w : World) (hr : Ro.inside r 1 1000000 = true) (hd : Ro.inside d 0 1000000 = false) (cf : w.cell? ⟨Bf, 0, none⟩ = some (.bool true)) (ff : w.frozen? ⟨Bf, 0, none⟩ = false) (ct : w.cell? ⟨Bt, 0, none⟩ = some (.int .i64 T)) (_ft : w.frozen? ⟨Bt, 0, none⟩ = false) (cs : w.cell? ⟨Bs, 0, none⟩ = some (.int .i64 S)) (hft : Bf ≠ Bt) (hfs : Bf ≠ Bs) (hts : Bt ≠ Bs) :
    Calls Try.prog 23 #[linkVal r d X, .pointer (some ⟨Bf, 0, none⟩), .pointer (some ⟨Bt, 0, none⟩), .pointer (some ⟨Bs, 0, none⟩)] w fun e w' => (∃ v, e = .returned v) ∧ w'.cell? ⟨Bf, 0, none⟩ = some (.bool false) ∧ w'.cell? ⟨Bt, 0, none⟩ = some (.int .i64 T) ∧ Stay Bf Bt w w' := by
  have bf := World.block_lt_of_cell? _ _ cf
  have bt := World.block_lt_of_cell? _ _ ct
  have bs := World.block_lt_of_cell? _ _ cs
  simp only at bf bt bs
  have HR := Lib.hid hr
  have HD := Lib.hid hd
  clear hr hd
  go_enter Try.func23, Try.ntmps23
  go_wp2_with fail
  refine (inside_any r 1 1000000 _).mono ?_
  rw [HR.out]
  rintro e w1 ⟨rfl, rfl⟩
  go_wp2_with fail
  refine (inside_any d 0 1000000 _).mono ?_
  rw [HD.out]
  rintro e w2 ⟨rfl, rfl⟩
  go_wp2
  go_end0
  refine ⟨⟨_, rfl⟩, by go_simp, by first | (go_simp; done) | (go_simp; rfl), ?_⟩
  (repeat (first | exact Stay.refl _ _ _ | refine Stay.set ?_ (.inl rfl) _ | refine Stay.set ?_ (.inr rfl) _ | refine Stay.drew ?_ | refine Stay.alloc ?_ _))
set_option maxRecDepth 100000 in
set_option maxHeartbeats 4000000 in
theorem pass_on (r d : Int) (X : Nat → Value) (Bf Bt Bs : Nat) (T S : Int) (w : World) (hr : Ro.inside r 1 1000000 = true) (hd : Ro.inside d 0 1000000 = true) (S0 : 1 ≤ S) (S1 : S ≤ 10000) (T0 : 0 ≤ T) (T1 : T ≤ 1000000000) (cf : w.cell? ⟨Bf, 0, none⟩ = some (.bool true)) (ff : w.frozen? ⟨Bf, 0, none⟩ = false) (ct : w.cell? ⟨Bt, 0, none⟩ = some (.int .i64 T)) (ft : w.frozen? ⟨Bt, 0, none⟩ = false) (cs : w.cell? ⟨Bs, 0, none⟩ = some (.int .i64 S)) (hft : Bf ≠ Bt) (hfs : Bf ≠ Bs) (hts : Bt ≠ Bs) :
    Calls Try.prog 23 #[linkVal r d X, .pointer (some ⟨Bf, 0, none⟩), .pointer (some ⟨Bt, 0, none⟩), .pointer (some ⟨Bs, 0, none⟩)] w fun e w' => (∃ v, e = .returned v) ∧ w'.cell? ⟨Bf, 0, none⟩ = some (.bool true) ∧ w'.cell? ⟨Bt, 0, none⟩ = some (.int .i64 (T + Ro.takes S (r, d))) ∧ Stay Bf Bt w w' := by
  have bf := World.block_lt_of_cell? _ _ cf
  have bt := World.block_lt_of_cell? _ _ ct
  have bs := World.block_lt_of_cell? _ _ cs
  simp only at bf bt bs
  obtain ⟨r0, r1⟩ := (Ro.inside_iff _ _ _).1 hr
  obtain ⟨d0, d1⟩ := (Ro.inside_iff _ _ _).1 hd
  have HR := Lib.hid hr
  have HD := Lib.hid hd
  clear hr hd
  have hq : 0 ≤ (1000 * S + r - 1).tdiv r ∧ (1000 * S + r - 1).tdiv r ≤ 1000 * S + r - 1 := by
    rw [Int.tdiv_eq_ediv_of_nonneg (by omega)]
    exact ⟨Int.ediv_nonneg (by omega) (by omega), Int.ediv_le_self _ (by omega)⟩
  obtain ⟨q0, q1⟩ := hq
  have hrz : ¬ r = 0 := by omega
  have e0 : IntKind.i64.wrap (1000 * S) = 1000 * S := IntWalk.i64_in _ ⟨by omega, by omega⟩
  have E0 := Lib.hid e0
  have e1 : IntKind.i64.wrap (1000 * S + r) = 1000 * S + r := IntWalk.i64_in _ ⟨by omega, by omega⟩
  have E1 := Lib.hid e1
  have e2 : IntKind.i64.wrap (1000 * S + r - 1) = 1000 * S + r - 1 := IntWalk.i64_in _ ⟨by omega, by omega⟩
  have E2 := Lib.hid e2
  have e3 : IntKind.i64.wrap ((1000 * S + r - 1).tdiv r) = (1000 * S + r - 1).tdiv r := IntWalk.i64_in _ ⟨by omega, by omega⟩
  have E3 := Lib.hid e3
  have e4 : IntKind.i64.wrap ((1000 * S + r - 1).tdiv r + d) = (1000 * S + r - 1).tdiv r + d := IntWalk.i64_in _ ⟨by omega, by omega⟩
  have E4 := Lib.hid e4
  have e5 : IntKind.i64.wrap (T + ((1000 * S + r - 1).tdiv r + d)) = T + ((1000 * S + r - 1).tdiv r + d) := IntWalk.i64_in _ ⟨by omega, by omega⟩
  have E5 := Lib.hid e5
  clear e0 e1 e2 e3 e4 e5
  clear q0 q1
  go_enter Try.func23, Try.ntmps23
  go_wp2_with fail
  refine (inside_any r 1 1000000 _).mono ?_
  rw [HR.out]
  rintro e w1 ⟨rfl, rfl⟩
  go_wp2_with fail
  refine (inside_any d 0 1000000 _).mono ?_
  rw [HD.out]
  rintro e w2 ⟨rfl, rfl⟩
  go_wp2
  refine wp_region_held_drew (S := (fun W => W.cell? ⟨Bs, 0, none⟩ = some (.int .i64 S) ∧ W.cell? ⟨w.heap.size, 0, none⟩ = some (.int .i64 r) ∧ W.cell? ⟨w.heap.size, 1, none⟩ = some (.int .i64 d))) (by kernel_rfl) ?_ (fun hHeld => ?_)
  · exact ⟨by go_simp, by go_simp, by go_simp⟩
  refine wpAnyH_take (i := 1) (v := ?_) rfl (by kernel_rfl) (by kernel_rfl) (by kernel_rfl) (fun _ _ _ h => h) (Or.inl ⟨by rfl, ?_⟩) hHeld ?_
  rotate_left
  · intro wS hSw; obtain ⟨hS0, hS1, hS2⟩ := hSw; go_simp; (try simp only [E0.out]); (try simp only [E1.out]); (try simp only [E2.out]); (try simp only [E3.out]); (try simp only [E4.out]); (try simp only [E5.out]); try with_reducible rfl
  try go_simp
  refine wpAnyH_take (i := 2) (v := ?_) rfl (by kernel_rfl) (by kernel_rfl) (by kernel_rfl) (fun _ _ _ h => h) (Or.inl ⟨by rfl, ?_⟩) hHeld ?_
  rotate_left
  · intro wS hSw; obtain ⟨hS0, hS1, hS2⟩ := hSw; go_simp; (try simp only [E0.out]); (try simp only [E1.out]); (try simp only [E2.out]); (try simp only [E3.out]); (try simp only [E4.out]); (try simp only [E5.out]); try with_reducible rfl
  try go_simp
  refine wpAnyH_take (i := 3) (v := ?_) rfl (by kernel_rfl) (by kernel_rfl) (by kernel_rfl) (fun _ _ _ h => h) (Or.inl ⟨by rfl, ?_⟩) hHeld ?_
  rotate_left
  · intro wS hSw; obtain ⟨hS0, hS1, hS2⟩ := hSw; go_simp; (try simp only [E0.out]); (try simp only [E1.out]); (try simp only [E2.out]); (try simp only [E3.out]); (try simp only [E4.out]); (try simp only [E5.out]); try with_reducible rfl
  try go_simp
  refine wpAnyH_take (i := 4) (v := ?_) rfl (by kernel_rfl) (by kernel_rfl) (by kernel_rfl) (fun _ _ _ h => h) (Or.inl ⟨by rfl, ?_⟩) hHeld ?_
  rotate_left
  · intro wS hSw; obtain ⟨hS0, hS1, hS2⟩ := hSw; go_simp; (try simp only [E0.out]); (try simp only [E1.out]); (try simp only [E2.out]); (try simp only [E3.out]); (try simp only [E4.out]); (try simp only [E5.out]); try with_reducible rfl
  try go_simp
  refine wpAnyH_take (i := 5) (v := ?_) rfl (by kernel_rfl) (by kernel_rfl) (by kernel_rfl) (fun _ _ _ h => h) (Or.inl ⟨by rfl, ?_⟩) hHeld ?_
  rotate_left
  · intro wS hSw; obtain ⟨hS0, hS1, hS2⟩ := hSw; go_simp; (try simp only [E0.out]); (try simp only [E1.out]); (try simp only [E2.out]); (try simp only [E3.out]); (try simp only [E4.out]); (try simp only [E5.out]); try with_reducible rfl
  try go_simp
  refine wpAnyH_take (i := 6) (v := ?_) rfl (by kernel_rfl) (by kernel_rfl) (by kernel_rfl) (fun _ _ _ h => h) (Or.inl ⟨by rfl, ?_⟩) hHeld ?_
  rotate_left
  · intro wS hSw; obtain ⟨hS0, hS1, hS2⟩ := hSw; go_simp; (try simp only [E0.out]); (try simp only [E1.out]); (try simp only [E2.out]); (try simp only [E3.out]); (try simp only [E4.out]); (try simp only [E5.out]); try with_reducible rfl
  try go_simp
  refine wpAnyH_take (i := 7) (v := ?_) rfl (by kernel_rfl) (by kernel_rfl) (by kernel_rfl) (fun _ _ _ h => h) (Or.inl ⟨by rfl, ?_⟩) hHeld ?_
  rotate_left
  · intro wS hSw; obtain ⟨hS0, hS1, hS2⟩ := hSw; go_simp; (try simp only [E0.out]); (try simp only [E1.out]); (try simp only [E2.out]); (try simp only [E3.out]); (try simp only [E4.out]); (try simp only [E5.out]); try with_reducible rfl
  try go_simp
  refine wpAnyH_take (i := 8) (v := ?_) rfl (by kernel_rfl) (by kernel_rfl) (by kernel_rfl) (fun _ _ _ h => h) (Or.inl ⟨by rfl, ?_⟩) hHeld ?_
  rotate_left
  · intro wS hSw; obtain ⟨hS0, hS1, hS2⟩ := hSw; go_simp; (try simp only [E0.out]); (try simp only [E1.out]); (try simp only [E2.out]); (try simp only [E3.out]); (try simp only [E4.out]); (try simp only [E5.out]); try with_reducible rfl
  try go_simp
  refine wpAnyH_take (i := 9) (v := ?_) rfl (by kernel_rfl) (by kernel_rfl) (by kernel_rfl) (fun _ _ _ h => h) (Or.inl ⟨by rfl, ?_⟩) hHeld ?_
  rotate_left
  · intro wS hSw; obtain ⟨hS0, hS1, hS2⟩ := hSw; go_simp; (try simp only [E0.out]); (try simp only [E1.out]); (try simp only [E2.out]); (try simp only [E3.out]); (try simp only [E4.out]); (try simp only [E5.out]); try with_reducible rfl
  try go_simp
  refine wpAnyH_take (i := 10) (v := ?_) rfl (by kernel_rfl) (by kernel_rfl) (by kernel_rfl) (fun _ _ _ h => h) (Or.inl ⟨by rfl, ?_⟩) hHeld ?_
  rotate_left
  · intro wS hSw; obtain ⟨hS0, hS1, hS2⟩ := hSw; go_simp; (try simp only [E0.out]); (try simp only [E1.out]); (try simp only [E2.out]); (try simp only [E3.out]); (try simp only [E4.out]); (try simp only [E5.out]); try with_reducible rfl
  try go_simp
  refine wpAnyH_take (i := 11) (v := ?_) rfl (by kernel_rfl) (by kernel_rfl) (by kernel_rfl) (fun _ _ _ h => h) (Or.inl ⟨by rfl, ?_⟩) hHeld ?_
  rotate_left
  · intro wS hSw; obtain ⟨hS0, hS1, hS2⟩ := hSw; go_simp; (try simp only [E0.out]); (try simp only [E1.out]); (try simp only [E2.out]); (try simp only [E3.out]); (try simp only [E4.out]); (try simp only [E5.out]); try with_reducible rfl
  try go_simp
  refine wpAnyH_take (i := 12) (v := ?_) rfl (by kernel_rfl) (by kernel_rfl) (by kernel_rfl) (fun _ _ _ h => h) (Or.inl ⟨by rfl, ?_⟩) hHeld ?_
  rotate_left
  · intro wS hSw; obtain ⟨hS0, hS1, hS2⟩ := hSw; go_simp; (try simp only [E0.out]); (try simp only [E1.out]); (try simp only [E2.out]); (try simp only [E3.out]); (try simp only [E4.out]); (try simp only [E5.out]); try with_reducible rfl
  try go_simp
  refine wpAnyH_ready (rs := [0]) (by kernel_rfl) (by simp) ?_
  refine AllReadyH.cons rfl (fun K hK => ?_) AllReadyH.nil
  go_simp
  refine hK.out _ _ ?_ (fun hHeld => ?_)
  · exact ⟨by go_simp, by go_simp, by go_simp⟩
  clear hK K
  try go_simp
  refine wpAnyH_take (i := 13) (v := ?_) rfl (by kernel_rfl) (by kernel_rfl) (by kernel_rfl) (fun _ _ _ h => h) (Or.inl ⟨by rfl, ?_⟩) hHeld ?_
  rotate_left
  · intro wS hSw; obtain ⟨hS0, hS1, hS2⟩ := hSw; go_simp; (try simp only [E0.out]); (try simp only [E1.out]); (try simp only [E2.out]); (try simp only [E3.out]); (try simp only [E4.out]); (try simp only [E5.out]); try with_reducible rfl
  try go_simp
  refine wpAnyH_ready (rs := [14]) (by kernel_rfl) (by simp) ?_
  refine AllReadyH.cons rfl (fun K hK => ?_) AllReadyH.nil
  go_simp
  refine hK.out _ _ ?_ (fun hHeld => ?_)
  · exact ⟨by go_simp, by go_simp, by go_simp⟩
  clear hK K
  try go_simp
  refine wpAnyH_done (by kernel_rfl) ?_ _
  clear hHeld
  go_end0
  refine ⟨⟨_, rfl⟩, by go_simp, by first | (go_simp; done) | (go_simp; rfl), ?_⟩
  (repeat (first | exact Stay.refl _ _ _ | refine Stay.set ?_ (.inl rfl) _ | refine Stay.set ?_ (.inr rfl) _ | refine Stay.drew ?_ | refine Stay.alloc ?_ _))
/-- One link is passed. -/
theorem pass_any (r d : Int) (X : Nat → Value) (Bf Bt Bs : Nat) (T S : Int) (f : Bool) (w : World) (S0 : 1 ≤ S) (S1 : S ≤ 10000) (T0 : 0 ≤ T) (T1 : T ≤ 1000000000) (cf : w.cell? ⟨Bf, 0, none⟩ = some (.bool f)) (ff : w.frozen? ⟨Bf, 0, none⟩ = false) (ct : w.cell? ⟨Bt, 0, none⟩ = some (.int .i64 T)) (ft : w.frozen? ⟨Bt, 0, none⟩ = false) (cs : w.cell? ⟨Bs, 0, none⟩ = some (.int .i64 S)) (hft : Bf ≠ Bt) (hfs : Bf ≠ Bs) (hts : Bt ≠ Bs) :
    Calls Try.prog 23 #[linkVal r d X, .pointer (some ⟨Bf, 0, none⟩), .pointer (some ⟨Bt, 0, none⟩), .pointer (some ⟨Bs, 0, none⟩)] w fun e w' => (∃ v, e = .returned v) ∧ w'.cell? ⟨Bf, 0, none⟩ = some (.bool (f && Ro.fine (r, d))) ∧ w'.cell? ⟨Bt, 0, none⟩ = some (.int .i64 (if (f && Ro.fine (r, d)) = true then T + Ro.takes S (r, d) else T)) ∧ Stay Bf Bt w w' := by
  have hfi : Ro.fine (r, d) = (Ro.inside r 1 1000000 && Ro.inside d 0 1000000) := rfl
  cases f with
  | false => exact pass_off r d X Bf Bt Bs T S w cf ff ct ft cs hft hfs hts
  | true =>
    cases hr : Ro.inside r 1 1000000 with
    | false =>
      rw [hfi, hr]
      exact pass_rate r d X Bf Bt Bs T S w hr cf ff ct ft cs hft hfs hts
    | true =>
      cases hd : Ro.inside d 0 1000000 with
      | false =>
        rw [hfi, hr, hd]
        exact pass_delay r d X Bf Bt Bs T S w hr hd cf ff ct ft cs hft hfs hts
      | true =>
        rw [hfi, hr, hd]
        exact pass_on r d X Bf Bt Bs T S w hr hd S0 S1 T0 T1 cf ff ct ft cs hft hfs hts
end Go.Proofs.Ytjjplcjinhcpiaa
