/- Package ratio: what the four operations and the comparison return. -/
import Derived.Test.YtjnjokkhkfdaiaaRatOps
namespace Go.Proofs.Ytjnjokkhkfdaiaa
open Go.RowKit

theorem prod_in {a b : Int} (h0 : -1000000000 ≤ a) (h1 : a ≤ 1000000000) (k0 : -1000000000 ≤ b) (k1 : b ≤ 1000000000) : -1000000000000000000 ≤ a * b ∧ a * b ≤ 1000000000000000000 := by
  have := Rt.abs_mul h0 h1 k0 k1 (by omega) (by omega)
  omega
/-- The cells of two ratios. -/
def TwoR (W : World) (p q : Nat) (an ad bn bd : Int) : Prop :=
  W.cell? ⟨p, 0, none⟩ = some (.int .i64 an) ∧ W.cell? ⟨p, 1, none⟩ = some (.int .i64 ad) ∧ W.cell? ⟨q, 0, none⟩ = some (.int .i64 bn) ∧ W.cell? ⟨q, 1, none⟩ = some (.int .i64 bd)
set_option maxHeartbeats 1000000 in
set_option maxRecDepth 100000 in
theorem add_clo (p q : Nat) (an ad bn bd : Int) (w : World) (ha : Rt.valid an ad = true) (hb : Rt.valid bn bd = true) (hc : TwoR w p q an ad bn bd) :
    Calls Try.prog 32 #[.pointer (some ⟨p, 0, none⟩), .pointer (some ⟨q, 0, none⟩)] w fun e w' => e = .returned (.tuple #[.int .i64 (an * bd + bn * ad), .int .i64 (ad * bd)]) ∧ Below w.heap.size w w' := by
  obtain ⟨c0, c1, c2, c3⟩ := hc
  obtain ⟨a0, a1, a2, a3⟩ := Rt.valid_bd ha
  obtain ⟨b0, b1, b2, b3⟩ := Rt.valid_bd hb
  obtain ⟨m0, n0⟩ := prod_in (a := ad) (b := bd) (by omega) (by omega) (by omega) (by omega)
  obtain ⟨m1, n1⟩ := prod_in (a := an) (b := bd) (by omega) (by omega) (by omega) (by omega)
  obtain ⟨m2, n2⟩ := prod_in (a := bn) (b := ad) (by omega) (by omega) (by omega) (by omega)
  have e0 : IntKind.i64.wrap (ad * bd) = ad * bd := IntWalk.i64_in _ ⟨by omega, by omega⟩
  have E0 := Lib.hid e0
  have e1 : IntKind.i64.wrap (an * bd) = an * bd := IntWalk.i64_in _ ⟨by omega, by omega⟩
  have E1 := Lib.hid e1
  have e2 : IntKind.i64.wrap (bn * ad) = bn * ad := IntWalk.i64_in _ ⟨by omega, by omega⟩
  have E2 := Lib.hid e2
  have e3 : IntKind.i64.wrap (an * bd + bn * ad) = an * bd + bn * ad := IntWalk.i64_in _ ⟨by omega, by omega⟩
  have E3 := Lib.hid e3
  clear e0 e1 e2 e3
  clear ha hb
  go_enter Try.func32, Try.ntmps32
  go_wp2
  refine wp_region_held_drew (S := (fun W => TwoR W p q an ad bn bd ∧ Below w.heap.size w W)) (by kernel_rfl) ?_ (fun hHeld => ?_)
  · exact ⟨⟨by go_simp, by go_simp, by go_simp, by go_simp⟩, below_drawn (Below.refl _ _)⟩
  refine wpAnyH_take (i := 0) (v := ?_) rfl (by kernel_rfl) (by kernel_rfl) (by kernel_rfl) (fun _ _ _ h => h) (Or.inl ⟨by rfl, ?_⟩) hHeld ?_
  rotate_left
  · intro wS hSw; obtain ⟨⟨hS0, hS1, hS2, hS3⟩, hS4⟩ := hSw; go_simp; try with_reducible rfl
  try go_simp
  refine wpAnyH_take (i := 1) (v := ?_) rfl (by kernel_rfl) (by kernel_rfl) (by kernel_rfl) (fun _ _ _ h => h) (Or.inl ⟨by rfl, ?_⟩) hHeld ?_
  rotate_left
  · intro wS hSw; obtain ⟨⟨hS0, hS1, hS2, hS3⟩, hS4⟩ := hSw; go_simp; try with_reducible rfl
  try go_simp
  refine wpAnyH_take (i := 2) (v := ?_) rfl (by kernel_rfl) (by kernel_rfl) (by kernel_rfl) (fun _ _ _ h => h) (Or.inl ⟨by rfl, ?_⟩) hHeld ?_
  rotate_left
  · intro wS hSw; obtain ⟨⟨hS0, hS1, hS2, hS3⟩, hS4⟩ := hSw; go_simp; try with_reducible rfl
  try go_simp
  refine wpAnyH_take (i := 3) (v := ?_) rfl (by kernel_rfl) (by kernel_rfl) (by kernel_rfl) (fun _ _ _ h => h) (Or.inl ⟨by rfl, ?_⟩) hHeld ?_
  rotate_left
  · intro wS hSw; obtain ⟨⟨hS0, hS1, hS2, hS3⟩, hS4⟩ := hSw; go_simp; try with_reducible rfl
  try go_simp
  refine wpAnyH_take (i := 4) (v := ?_) rfl (by kernel_rfl) (by kernel_rfl) (by kernel_rfl) (fun _ _ _ h => h) (Or.inl ⟨by rfl, ?_⟩) hHeld ?_
  rotate_left
  · intro wS hSw; obtain ⟨⟨hS0, hS1, hS2, hS3⟩, hS4⟩ := hSw; go_simp; try with_reducible rfl
  try go_simp
  refine wpAnyH_take (i := 5) (v := ?_) rfl (by kernel_rfl) (by kernel_rfl) (by kernel_rfl) (fun _ _ _ h => h) (Or.inl ⟨by rfl, ?_⟩) hHeld ?_
  rotate_left
  · intro wS hSw; obtain ⟨⟨hS0, hS1, hS2, hS3⟩, hS4⟩ := hSw; go_simp; try with_reducible rfl
  try go_simp
  refine wpAnyH_take (i := 6) (v := ?_) rfl (by kernel_rfl) (by kernel_rfl) (by kernel_rfl) (fun _ _ _ h => h) (Or.inl ⟨by rfl, ?_⟩) hHeld ?_
  rotate_left
  · intro wS hSw; obtain ⟨⟨hS0, hS1, hS2, hS3⟩, hS4⟩ := hSw; go_simp; try with_reducible rfl
  try go_simp
  refine wpAnyH_take (i := 7) (v := ?_) rfl (by kernel_rfl) (by kernel_rfl) (by kernel_rfl) (fun _ _ _ h => h) (Or.inl ⟨by rfl, ?_⟩) hHeld ?_
  rotate_left
  · intro wS hSw; obtain ⟨⟨hS0, hS1, hS2, hS3⟩, hS4⟩ := hSw; go_simp; try with_reducible rfl
  try go_simp
  refine wpAnyH_take (i := 8) (v := ?_) rfl (by kernel_rfl) (by kernel_rfl) (by kernel_rfl) (fun _ _ _ h => h) (Or.inl ⟨by rfl, ?_⟩) hHeld ?_
  rotate_left
  · intro wS hSw; obtain ⟨⟨hS0, hS1, hS2, hS3⟩, hS4⟩ := hSw; go_simp; try with_reducible rfl
  try go_simp
  refine wpAnyH_take (i := 9) (v := ?_) rfl (by kernel_rfl) (by kernel_rfl) (by kernel_rfl) (fun _ _ _ h => h) (Or.inl ⟨by rfl, ?_⟩) hHeld ?_
  rotate_left
  · intro wS hSw; obtain ⟨⟨hS0, hS1, hS2, hS3⟩, hS4⟩ := hSw; go_simp; try with_reducible rfl
  try go_simp
  refine wpAnyH_take (i := 10) (v := ?_) rfl (by kernel_rfl) (by kernel_rfl) (by kernel_rfl) (fun _ _ _ h => h) (Or.inl ⟨by rfl, ?_⟩) hHeld ?_
  rotate_left
  · intro wS hSw; obtain ⟨⟨hS0, hS1, hS2, hS3⟩, hS4⟩ := hSw; go_simp; try with_reducible rfl
  try go_simp
  refine wpAnyH_take (i := 11) (v := ?_) rfl (by kernel_rfl) (by kernel_rfl) (by kernel_rfl) (fun _ _ _ h => h) (Or.inl ⟨by rfl, ?_⟩) hHeld ?_
  rotate_left
  · intro wS hSw; obtain ⟨⟨hS0, hS1, hS2, hS3⟩, hS4⟩ := hSw; go_simp; try with_reducible rfl
  try go_simp
  refine wpAnyH_take (i := 12) (v := ?_) rfl (by kernel_rfl) (by kernel_rfl) (by kernel_rfl) (fun _ _ _ h => h) (Or.inl ⟨by rfl, ?_⟩) hHeld ?_
  rotate_left
  · intro wS hSw; obtain ⟨⟨hS0, hS1, hS2, hS3⟩, hS4⟩ := hSw; go_simp; try with_reducible rfl
  try go_simp
  refine wpAnyH_take (i := 13) (v := ?_) rfl (by kernel_rfl) (by kernel_rfl) (by kernel_rfl) (fun _ _ _ h => h) (Or.inl ⟨by rfl, ?_⟩) hHeld ?_
  rotate_left
  · intro wS hSw; obtain ⟨⟨hS0, hS1, hS2, hS3⟩, hS4⟩ := hSw; go_simp; try with_reducible rfl
  try go_simp
  refine wpAnyH_take (i := 14) (v := ?_) rfl (by kernel_rfl) (by kernel_rfl) (by kernel_rfl) (fun _ _ _ h => h) (Or.inl ⟨by rfl, ?_⟩) hHeld ?_
  rotate_left
  · intro wS hSw; obtain ⟨⟨hS0, hS1, hS2, hS3⟩, hS4⟩ := hSw; go_simp; try with_reducible rfl
  try go_simp
  refine wpAnyH_take (i := 15) (v := ?_) rfl (by kernel_rfl) (by kernel_rfl) (by kernel_rfl) (fun _ _ _ h => h) (Or.inl ⟨by rfl, ?_⟩) hHeld ?_
  rotate_left
  · intro wS hSw; obtain ⟨⟨hS0, hS1, hS2, hS3⟩, hS4⟩ := hSw; go_simp; try with_reducible rfl
  try go_simp
  refine wpAnyH_take (i := 16) (v := ?_) rfl (by kernel_rfl) (by kernel_rfl) (by kernel_rfl) (fun _ _ _ h => h) (Or.inl ⟨by rfl, ?_⟩) hHeld ?_
  rotate_left
  · intro wS hSw; obtain ⟨⟨hS0, hS1, hS2, hS3⟩, hS4⟩ := hSw; go_simp; try with_reducible rfl
  try go_simp
  refine wpAnyH_take (i := 17) (v := ?_) rfl (by kernel_rfl) (by kernel_rfl) (by kernel_rfl) (fun _ _ _ h => h) (Or.inl ⟨by rfl, ?_⟩) hHeld ?_
  rotate_left
  · intro wS hSw; obtain ⟨⟨hS0, hS1, hS2, hS3⟩, hS4⟩ := hSw; go_simp; try with_reducible rfl
  try go_simp
  refine wpAnyH_done (by kernel_rfl) ?_ _
  obtain ⟨_, hBW⟩ := hHeld
  go_wp2
  exact bodyPost_ret (v := .tuple #[.int .i64 (an * bd + bn * ad), .int .i64 (ad * bd)]) (by simp [results, Try.results32, go_sem, E0.out, E1.out, E2.out, E3.out]) rfl ⟨rfl, hBW⟩
set_option maxHeartbeats 1000000 in
set_option maxRecDepth 100000 in
theorem sub_clo (p q : Nat) (an ad bn bd : Int) (w : World) (ha : Rt.valid an ad = true) (hb : Rt.valid bn bd = true) (hc : TwoR w p q an ad bn bd) :
    Calls Try.prog 33 #[.pointer (some ⟨p, 0, none⟩), .pointer (some ⟨q, 0, none⟩)] w fun e w' => e = .returned (.tuple #[.int .i64 (an * bd - bn * ad), .int .i64 (ad * bd)]) ∧ Below w.heap.size w w' := by
  obtain ⟨c0, c1, c2, c3⟩ := hc
  obtain ⟨a0, a1, a2, a3⟩ := Rt.valid_bd ha
  obtain ⟨b0, b1, b2, b3⟩ := Rt.valid_bd hb
  obtain ⟨m0, n0⟩ := prod_in (a := ad) (b := bd) (by omega) (by omega) (by omega) (by omega)
  obtain ⟨m1, n1⟩ := prod_in (a := an) (b := bd) (by omega) (by omega) (by omega) (by omega)
  obtain ⟨m2, n2⟩ := prod_in (a := bn) (b := ad) (by omega) (by omega) (by omega) (by omega)
  have e0 : IntKind.i64.wrap (ad * bd) = ad * bd := IntWalk.i64_in _ ⟨by omega, by omega⟩
  have E0 := Lib.hid e0
  have e1 : IntKind.i64.wrap (an * bd) = an * bd := IntWalk.i64_in _ ⟨by omega, by omega⟩
  have E1 := Lib.hid e1
  have e2 : IntKind.i64.wrap (bn * ad) = bn * ad := IntWalk.i64_in _ ⟨by omega, by omega⟩
  have E2 := Lib.hid e2
  have e3 : IntKind.i64.wrap (an * bd - bn * ad) = an * bd - bn * ad := IntWalk.i64_in _ ⟨by omega, by omega⟩
  have E3 := Lib.hid e3
  clear e0 e1 e2 e3
  clear ha hb
  go_enter Try.func33, Try.ntmps33
  go_wp2
  refine wp_region_held_drew (S := (fun W => TwoR W p q an ad bn bd ∧ Below w.heap.size w W)) (by kernel_rfl) ?_ (fun hHeld => ?_)
  · exact ⟨⟨by go_simp, by go_simp, by go_simp, by go_simp⟩, below_drawn (Below.refl _ _)⟩
  refine wpAnyH_take (i := 0) (v := ?_) rfl (by kernel_rfl) (by kernel_rfl) (by kernel_rfl) (fun _ _ _ h => h) (Or.inl ⟨by rfl, ?_⟩) hHeld ?_
  rotate_left
  · intro wS hSw; obtain ⟨⟨hS0, hS1, hS2, hS3⟩, hS4⟩ := hSw; go_simp; try with_reducible rfl
  try go_simp
  refine wpAnyH_take (i := 1) (v := ?_) rfl (by kernel_rfl) (by kernel_rfl) (by kernel_rfl) (fun _ _ _ h => h) (Or.inl ⟨by rfl, ?_⟩) hHeld ?_
  rotate_left
  · intro wS hSw; obtain ⟨⟨hS0, hS1, hS2, hS3⟩, hS4⟩ := hSw; go_simp; try with_reducible rfl
  try go_simp
  refine wpAnyH_take (i := 2) (v := ?_) rfl (by kernel_rfl) (by kernel_rfl) (by kernel_rfl) (fun _ _ _ h => h) (Or.inl ⟨by rfl, ?_⟩) hHeld ?_
  rotate_left
  · intro wS hSw; obtain ⟨⟨hS0, hS1, hS2, hS3⟩, hS4⟩ := hSw; go_simp; try with_reducible rfl
  try go_simp
  refine wpAnyH_take (i := 3) (v := ?_) rfl (by kernel_rfl) (by kernel_rfl) (by kernel_rfl) (fun _ _ _ h => h) (Or.inl ⟨by rfl, ?_⟩) hHeld ?_
  rotate_left
  · intro wS hSw; obtain ⟨⟨hS0, hS1, hS2, hS3⟩, hS4⟩ := hSw; go_simp; try with_reducible rfl
  try go_simp
  refine wpAnyH_take (i := 4) (v := ?_) rfl (by kernel_rfl) (by kernel_rfl) (by kernel_rfl) (fun _ _ _ h => h) (Or.inl ⟨by rfl, ?_⟩) hHeld ?_
  rotate_left
  · intro wS hSw; obtain ⟨⟨hS0, hS1, hS2, hS3⟩, hS4⟩ := hSw; go_simp; try with_reducible rfl
  try go_simp
  refine wpAnyH_take (i := 5) (v := ?_) rfl (by kernel_rfl) (by kernel_rfl) (by kernel_rfl) (fun _ _ _ h => h) (Or.inl ⟨by rfl, ?_⟩) hHeld ?_
  rotate_left
  · intro wS hSw; obtain ⟨⟨hS0, hS1, hS2, hS3⟩, hS4⟩ := hSw; go_simp; try with_reducible rfl
  try go_simp
  refine wpAnyH_take (i := 6) (v := ?_) rfl (by kernel_rfl) (by kernel_rfl) (by kernel_rfl) (fun _ _ _ h => h) (Or.inl ⟨by rfl, ?_⟩) hHeld ?_
  rotate_left
  · intro wS hSw; obtain ⟨⟨hS0, hS1, hS2, hS3⟩, hS4⟩ := hSw; go_simp; try with_reducible rfl
  try go_simp
  refine wpAnyH_take (i := 7) (v := ?_) rfl (by kernel_rfl) (by kernel_rfl) (by kernel_rfl) (fun _ _ _ h => h) (Or.inl ⟨by rfl, ?_⟩) hHeld ?_
  rotate_left
  · intro wS hSw; obtain ⟨⟨hS0, hS1, hS2, hS3⟩, hS4⟩ := hSw; go_simp; try with_reducible rfl
  try go_simp
  refine wpAnyH_take (i := 8) (v := ?_) rfl (by kernel_rfl) (by kernel_rfl) (by kernel_rfl) (fun _ _ _ h => h) (Or.inl ⟨by rfl, ?_⟩) hHeld ?_
  rotate_left
  · intro wS hSw; obtain ⟨⟨hS0, hS1, hS2, hS3⟩, hS4⟩ := hSw; go_simp; try with_reducible rfl
  try go_simp
  refine wpAnyH_take (i := 9) (v := ?_) rfl (by kernel_rfl) (by kernel_rfl) (by kernel_rfl) (fun _ _ _ h => h) (Or.inl ⟨by rfl, ?_⟩) hHeld ?_
  rotate_left
  · intro wS hSw; obtain ⟨⟨hS0, hS1, hS2, hS3⟩, hS4⟩ := hSw; go_simp; try with_reducible rfl
  try go_simp
  refine wpAnyH_take (i := 10) (v := ?_) rfl (by kernel_rfl) (by kernel_rfl) (by kernel_rfl) (fun _ _ _ h => h) (Or.inl ⟨by rfl, ?_⟩) hHeld ?_
  rotate_left
  · intro wS hSw; obtain ⟨⟨hS0, hS1, hS2, hS3⟩, hS4⟩ := hSw; go_simp; try with_reducible rfl
  try go_simp
  refine wpAnyH_take (i := 11) (v := ?_) rfl (by kernel_rfl) (by kernel_rfl) (by kernel_rfl) (fun _ _ _ h => h) (Or.inl ⟨by rfl, ?_⟩) hHeld ?_
  rotate_left
  · intro wS hSw; obtain ⟨⟨hS0, hS1, hS2, hS3⟩, hS4⟩ := hSw; go_simp; try with_reducible rfl
  try go_simp
  refine wpAnyH_take (i := 12) (v := ?_) rfl (by kernel_rfl) (by kernel_rfl) (by kernel_rfl) (fun _ _ _ h => h) (Or.inl ⟨by rfl, ?_⟩) hHeld ?_
  rotate_left
  · intro wS hSw; obtain ⟨⟨hS0, hS1, hS2, hS3⟩, hS4⟩ := hSw; go_simp; try with_reducible rfl
  try go_simp
  refine wpAnyH_take (i := 13) (v := ?_) rfl (by kernel_rfl) (by kernel_rfl) (by kernel_rfl) (fun _ _ _ h => h) (Or.inl ⟨by rfl, ?_⟩) hHeld ?_
  rotate_left
  · intro wS hSw; obtain ⟨⟨hS0, hS1, hS2, hS3⟩, hS4⟩ := hSw; go_simp; try with_reducible rfl
  try go_simp
  refine wpAnyH_take (i := 14) (v := ?_) rfl (by kernel_rfl) (by kernel_rfl) (by kernel_rfl) (fun _ _ _ h => h) (Or.inl ⟨by rfl, ?_⟩) hHeld ?_
  rotate_left
  · intro wS hSw; obtain ⟨⟨hS0, hS1, hS2, hS3⟩, hS4⟩ := hSw; go_simp; try with_reducible rfl
  try go_simp
  refine wpAnyH_take (i := 15) (v := ?_) rfl (by kernel_rfl) (by kernel_rfl) (by kernel_rfl) (fun _ _ _ h => h) (Or.inl ⟨by rfl, ?_⟩) hHeld ?_
  rotate_left
  · intro wS hSw; obtain ⟨⟨hS0, hS1, hS2, hS3⟩, hS4⟩ := hSw; go_simp; try with_reducible rfl
  try go_simp
  refine wpAnyH_take (i := 16) (v := ?_) rfl (by kernel_rfl) (by kernel_rfl) (by kernel_rfl) (fun _ _ _ h => h) (Or.inl ⟨by rfl, ?_⟩) hHeld ?_
  rotate_left
  · intro wS hSw; obtain ⟨⟨hS0, hS1, hS2, hS3⟩, hS4⟩ := hSw; go_simp; try with_reducible rfl
  try go_simp
  refine wpAnyH_take (i := 17) (v := ?_) rfl (by kernel_rfl) (by kernel_rfl) (by kernel_rfl) (fun _ _ _ h => h) (Or.inl ⟨by rfl, ?_⟩) hHeld ?_
  rotate_left
  · intro wS hSw; obtain ⟨⟨hS0, hS1, hS2, hS3⟩, hS4⟩ := hSw; go_simp; try with_reducible rfl
  try go_simp
  refine wpAnyH_done (by kernel_rfl) ?_ _
  obtain ⟨_, hBW⟩ := hHeld
  go_wp2
  exact bodyPost_ret (v := .tuple #[.int .i64 (an * bd - bn * ad), .int .i64 (ad * bd)]) (by simp [results, Try.results33, go_sem, E0.out, E1.out, E2.out, E3.out]) rfl ⟨rfl, hBW⟩
set_option maxHeartbeats 1000000 in
set_option maxRecDepth 100000 in
theorem mul_clo (p q : Nat) (an ad bn bd : Int) (w : World) (ha : Rt.valid an ad = true) (hb : Rt.valid bn bd = true) (hc : TwoR w p q an ad bn bd) :
    Calls Try.prog 34 #[.pointer (some ⟨p, 0, none⟩), .pointer (some ⟨q, 0, none⟩)] w fun e w' => e = .returned (.tuple #[.int .i64 (an * bn), .int .i64 (ad * bd)]) ∧ Below w.heap.size w w' := by
  obtain ⟨c0, c1, c2, c3⟩ := hc
  obtain ⟨a0, a1, a2, a3⟩ := Rt.valid_bd ha
  obtain ⟨b0, b1, b2, b3⟩ := Rt.valid_bd hb
  obtain ⟨m0, n0⟩ := prod_in (a := ad) (b := bd) (by omega) (by omega) (by omega) (by omega)
  obtain ⟨m1, n1⟩ := prod_in (a := an) (b := bn) (by omega) (by omega) (by omega) (by omega)
  have e0 : IntKind.i64.wrap (ad * bd) = ad * bd := IntWalk.i64_in _ ⟨by omega, by omega⟩
  have E0 := Lib.hid e0
  have e1 : IntKind.i64.wrap (an * bn) = an * bn := IntWalk.i64_in _ ⟨by omega, by omega⟩
  have E1 := Lib.hid e1
  clear e0 e1
  clear ha hb
  go_enter Try.func34, Try.ntmps34
  go_wp2
  refine wp_region_held_drew (S := (fun W => TwoR W p q an ad bn bd ∧ Below w.heap.size w W)) (by kernel_rfl) ?_ (fun hHeld => ?_)
  · exact ⟨⟨by go_simp, by go_simp, by go_simp, by go_simp⟩, below_drawn (Below.refl _ _)⟩
  refine wpAnyH_take (i := 0) (v := ?_) rfl (by kernel_rfl) (by kernel_rfl) (by kernel_rfl) (fun _ _ _ h => h) (Or.inl ⟨by rfl, ?_⟩) hHeld ?_
  rotate_left
  · intro wS hSw; obtain ⟨⟨hS0, hS1, hS2, hS3⟩, hS4⟩ := hSw; go_simp; try with_reducible rfl
  try go_simp
  refine wpAnyH_take (i := 1) (v := ?_) rfl (by kernel_rfl) (by kernel_rfl) (by kernel_rfl) (fun _ _ _ h => h) (Or.inl ⟨by rfl, ?_⟩) hHeld ?_
  rotate_left
  · intro wS hSw; obtain ⟨⟨hS0, hS1, hS2, hS3⟩, hS4⟩ := hSw; go_simp; try with_reducible rfl
  try go_simp
  refine wpAnyH_take (i := 2) (v := ?_) rfl (by kernel_rfl) (by kernel_rfl) (by kernel_rfl) (fun _ _ _ h => h) (Or.inl ⟨by rfl, ?_⟩) hHeld ?_
  rotate_left
  · intro wS hSw; obtain ⟨⟨hS0, hS1, hS2, hS3⟩, hS4⟩ := hSw; go_simp; try with_reducible rfl
  try go_simp
  refine wpAnyH_take (i := 3) (v := ?_) rfl (by kernel_rfl) (by kernel_rfl) (by kernel_rfl) (fun _ _ _ h => h) (Or.inl ⟨by rfl, ?_⟩) hHeld ?_
  rotate_left
  · intro wS hSw; obtain ⟨⟨hS0, hS1, hS2, hS3⟩, hS4⟩ := hSw; go_simp; try with_reducible rfl
  try go_simp
  refine wpAnyH_take (i := 4) (v := ?_) rfl (by kernel_rfl) (by kernel_rfl) (by kernel_rfl) (fun _ _ _ h => h) (Or.inl ⟨by rfl, ?_⟩) hHeld ?_
  rotate_left
  · intro wS hSw; obtain ⟨⟨hS0, hS1, hS2, hS3⟩, hS4⟩ := hSw; go_simp; try with_reducible rfl
  try go_simp
  refine wpAnyH_take (i := 5) (v := ?_) rfl (by kernel_rfl) (by kernel_rfl) (by kernel_rfl) (fun _ _ _ h => h) (Or.inl ⟨by rfl, ?_⟩) hHeld ?_
  rotate_left
  · intro wS hSw; obtain ⟨⟨hS0, hS1, hS2, hS3⟩, hS4⟩ := hSw; go_simp; try with_reducible rfl
  try go_simp
  refine wpAnyH_take (i := 6) (v := ?_) rfl (by kernel_rfl) (by kernel_rfl) (by kernel_rfl) (fun _ _ _ h => h) (Or.inl ⟨by rfl, ?_⟩) hHeld ?_
  rotate_left
  · intro wS hSw; obtain ⟨⟨hS0, hS1, hS2, hS3⟩, hS4⟩ := hSw; go_simp; try with_reducible rfl
  try go_simp
  refine wpAnyH_take (i := 7) (v := ?_) rfl (by kernel_rfl) (by kernel_rfl) (by kernel_rfl) (fun _ _ _ h => h) (Or.inl ⟨by rfl, ?_⟩) hHeld ?_
  rotate_left
  · intro wS hSw; obtain ⟨⟨hS0, hS1, hS2, hS3⟩, hS4⟩ := hSw; go_simp; try with_reducible rfl
  try go_simp
  refine wpAnyH_take (i := 8) (v := ?_) rfl (by kernel_rfl) (by kernel_rfl) (by kernel_rfl) (fun _ _ _ h => h) (Or.inl ⟨by rfl, ?_⟩) hHeld ?_
  rotate_left
  · intro wS hSw; obtain ⟨⟨hS0, hS1, hS2, hS3⟩, hS4⟩ := hSw; go_simp; try with_reducible rfl
  try go_simp
  refine wpAnyH_take (i := 9) (v := ?_) rfl (by kernel_rfl) (by kernel_rfl) (by kernel_rfl) (fun _ _ _ h => h) (Or.inl ⟨by rfl, ?_⟩) hHeld ?_
  rotate_left
  · intro wS hSw; obtain ⟨⟨hS0, hS1, hS2, hS3⟩, hS4⟩ := hSw; go_simp; try with_reducible rfl
  try go_simp
  refine wpAnyH_take (i := 10) (v := ?_) rfl (by kernel_rfl) (by kernel_rfl) (by kernel_rfl) (fun _ _ _ h => h) (Or.inl ⟨by rfl, ?_⟩) hHeld ?_
  rotate_left
  · intro wS hSw; obtain ⟨⟨hS0, hS1, hS2, hS3⟩, hS4⟩ := hSw; go_simp; try with_reducible rfl
  try go_simp
  refine wpAnyH_take (i := 11) (v := ?_) rfl (by kernel_rfl) (by kernel_rfl) (by kernel_rfl) (fun _ _ _ h => h) (Or.inl ⟨by rfl, ?_⟩) hHeld ?_
  rotate_left
  · intro wS hSw; obtain ⟨⟨hS0, hS1, hS2, hS3⟩, hS4⟩ := hSw; go_simp; try with_reducible rfl
  try go_simp
  refine wpAnyH_done (by kernel_rfl) ?_ _
  obtain ⟨_, hBW⟩ := hHeld
  go_wp2
  exact bodyPost_ret (v := .tuple #[.int .i64 (an * bn), .int .i64 (ad * bd)]) (by simp [results, Try.results34, go_sem, E0.out, E1.out]) rfl ⟨rfl, hBW⟩
set_option maxHeartbeats 1000000 in
set_option maxRecDepth 100000 in
theorem div_clo (p q : Nat) (an ad bn bd : Int) (w : World) (ha : Rt.valid an ad = true) (hb : Rt.valid bn bd = true) (hc : TwoR w p q an ad bn bd) :
    Calls Try.prog 35 #[.pointer (some ⟨p, 0, none⟩), .pointer (some ⟨q, 0, none⟩)] w fun e w' => e = .returned (.tuple #[.int .i64 (an * bd), .int .i64 (ad * bn)]) ∧ Below w.heap.size w w' := by
  obtain ⟨c0, c1, c2, c3⟩ := hc
  obtain ⟨a0, a1, a2, a3⟩ := Rt.valid_bd ha
  obtain ⟨b0, b1, b2, b3⟩ := Rt.valid_bd hb
  obtain ⟨m0, n0⟩ := prod_in (a := ad) (b := bn) (by omega) (by omega) (by omega) (by omega)
  obtain ⟨m1, n1⟩ := prod_in (a := an) (b := bd) (by omega) (by omega) (by omega) (by omega)
  have e0 : IntKind.i64.wrap (ad * bn) = ad * bn := IntWalk.i64_in _ ⟨by omega, by omega⟩
  have E0 := Lib.hid e0
  have e1 : IntKind.i64.wrap (an * bd) = an * bd := IntWalk.i64_in _ ⟨by omega, by omega⟩
  have E1 := Lib.hid e1
  clear e0 e1
  clear ha hb
  go_enter Try.func35, Try.ntmps35
  go_wp2
  refine wp_region_held_drew (S := (fun W => TwoR W p q an ad bn bd ∧ Below w.heap.size w W)) (by kernel_rfl) ?_ (fun hHeld => ?_)
  · exact ⟨⟨by go_simp, by go_simp, by go_simp, by go_simp⟩, below_drawn (Below.refl _ _)⟩
  refine wpAnyH_take (i := 0) (v := ?_) rfl (by kernel_rfl) (by kernel_rfl) (by kernel_rfl) (fun _ _ _ h => h) (Or.inl ⟨by rfl, ?_⟩) hHeld ?_
  rotate_left
  · intro wS hSw; obtain ⟨⟨hS0, hS1, hS2, hS3⟩, hS4⟩ := hSw; go_simp; try with_reducible rfl
  try go_simp
  refine wpAnyH_take (i := 1) (v := ?_) rfl (by kernel_rfl) (by kernel_rfl) (by kernel_rfl) (fun _ _ _ h => h) (Or.inl ⟨by rfl, ?_⟩) hHeld ?_
  rotate_left
  · intro wS hSw; obtain ⟨⟨hS0, hS1, hS2, hS3⟩, hS4⟩ := hSw; go_simp; try with_reducible rfl
  try go_simp
  refine wpAnyH_take (i := 2) (v := ?_) rfl (by kernel_rfl) (by kernel_rfl) (by kernel_rfl) (fun _ _ _ h => h) (Or.inl ⟨by rfl, ?_⟩) hHeld ?_
  rotate_left
  · intro wS hSw; obtain ⟨⟨hS0, hS1, hS2, hS3⟩, hS4⟩ := hSw; go_simp; try with_reducible rfl
  try go_simp
  refine wpAnyH_take (i := 3) (v := ?_) rfl (by kernel_rfl) (by kernel_rfl) (by kernel_rfl) (fun _ _ _ h => h) (Or.inl ⟨by rfl, ?_⟩) hHeld ?_
  rotate_left
  · intro wS hSw; obtain ⟨⟨hS0, hS1, hS2, hS3⟩, hS4⟩ := hSw; go_simp; try with_reducible rfl
  try go_simp
  refine wpAnyH_take (i := 4) (v := ?_) rfl (by kernel_rfl) (by kernel_rfl) (by kernel_rfl) (fun _ _ _ h => h) (Or.inl ⟨by rfl, ?_⟩) hHeld ?_
  rotate_left
  · intro wS hSw; obtain ⟨⟨hS0, hS1, hS2, hS3⟩, hS4⟩ := hSw; go_simp; try with_reducible rfl
  try go_simp
  refine wpAnyH_take (i := 5) (v := ?_) rfl (by kernel_rfl) (by kernel_rfl) (by kernel_rfl) (fun _ _ _ h => h) (Or.inl ⟨by rfl, ?_⟩) hHeld ?_
  rotate_left
  · intro wS hSw; obtain ⟨⟨hS0, hS1, hS2, hS3⟩, hS4⟩ := hSw; go_simp; try with_reducible rfl
  try go_simp
  refine wpAnyH_take (i := 6) (v := ?_) rfl (by kernel_rfl) (by kernel_rfl) (by kernel_rfl) (fun _ _ _ h => h) (Or.inl ⟨by rfl, ?_⟩) hHeld ?_
  rotate_left
  · intro wS hSw; obtain ⟨⟨hS0, hS1, hS2, hS3⟩, hS4⟩ := hSw; go_simp; try with_reducible rfl
  try go_simp
  refine wpAnyH_take (i := 7) (v := ?_) rfl (by kernel_rfl) (by kernel_rfl) (by kernel_rfl) (fun _ _ _ h => h) (Or.inl ⟨by rfl, ?_⟩) hHeld ?_
  rotate_left
  · intro wS hSw; obtain ⟨⟨hS0, hS1, hS2, hS3⟩, hS4⟩ := hSw; go_simp; try with_reducible rfl
  try go_simp
  refine wpAnyH_take (i := 8) (v := ?_) rfl (by kernel_rfl) (by kernel_rfl) (by kernel_rfl) (fun _ _ _ h => h) (Or.inl ⟨by rfl, ?_⟩) hHeld ?_
  rotate_left
  · intro wS hSw; obtain ⟨⟨hS0, hS1, hS2, hS3⟩, hS4⟩ := hSw; go_simp; try with_reducible rfl
  try go_simp
  refine wpAnyH_take (i := 9) (v := ?_) rfl (by kernel_rfl) (by kernel_rfl) (by kernel_rfl) (fun _ _ _ h => h) (Or.inl ⟨by rfl, ?_⟩) hHeld ?_
  rotate_left
  · intro wS hSw; obtain ⟨⟨hS0, hS1, hS2, hS3⟩, hS4⟩ := hSw; go_simp; try with_reducible rfl
  try go_simp
  refine wpAnyH_take (i := 10) (v := ?_) rfl (by kernel_rfl) (by kernel_rfl) (by kernel_rfl) (fun _ _ _ h => h) (Or.inl ⟨by rfl, ?_⟩) hHeld ?_
  rotate_left
  · intro wS hSw; obtain ⟨⟨hS0, hS1, hS2, hS3⟩, hS4⟩ := hSw; go_simp; try with_reducible rfl
  try go_simp
  refine wpAnyH_take (i := 11) (v := ?_) rfl (by kernel_rfl) (by kernel_rfl) (by kernel_rfl) (fun _ _ _ h => h) (Or.inl ⟨by rfl, ?_⟩) hHeld ?_
  rotate_left
  · intro wS hSw; obtain ⟨⟨hS0, hS1, hS2, hS3⟩, hS4⟩ := hSw; go_simp; try with_reducible rfl
  try go_simp
  refine wpAnyH_done (by kernel_rfl) ?_ _
  obtain ⟨_, hBW⟩ := hHeld
  go_wp2
  exact bodyPost_ret (v := .tuple #[.int .i64 (an * bd), .int .i64 (ad * bn)]) (by simp [results, Try.results35, go_sem, E0.out, E1.out]) rfl ⟨rfl, hBW⟩
set_option maxHeartbeats 1000000 in
set_option maxRecDepth 100000 in
theorem of_bad1 (K p q : Nat) (an ad bn bd : Int) (w : World) (ka : an ≤ 9223372036854775807) (_kb : bn ≤ 9223372036854775807) (ha : Rt.valid an ad = false) : Calls Try.prog 31 #[.agg #[.int .i64 an, .int .i64 ad], .agg #[.int .i64 bn, .int .i64 bd], .func (.func K) #[] #[.pointer (some ⟨p, 0, none⟩), .pointer (some ⟨q, 0, none⟩)]] w fun e w' => e = .returned (.tuple #[.agg #[.int .i64 0, .int .i64 0], .int .i64 1]) ∧ Below w.heap.size w w' := by
  have HA := Lib.hid ha
  clear ha
  go_enter Try.func31, Try.ntmps31
  go_wp2_with fail
  refine (valid_any an ad _ ka).mono ?_
  rw [HA.out]
  rintro e w1 ⟨rfl, hb_w1⟩
  have hB_w1 : Below w.heap.size w w1 := below_on (by (repeat (first | assumption | exact Below.refl _ _ | refine below_set ?_ (by first | omega | (simp; done) | (simp; omega)) _ | refine below_drawn ?_ | refine below_drawnN ?_ _ | refine below_new ?_ _))) hb_w1
  have hz_w1 := hb_w1.size
  try simp only [World.size_setCell] at hz_w1
  try simp only [World.size_drew] at hz_w1
  try simp only [World.size_drewN] at hz_w1
  try simp only [World.size_alloc] at hz_w1
  try simp only [World.size_setCell] at hz_w1
  try simp only [World.size_drew] at hz_w1
  try simp only [World.size_drewN] at hz_w1
  try simp only [World.size_alloc] at hz_w1
  have hl0_w1 : w.heap.size < w1.heap.size := by omega
  have hl1_w1 : w.heap.size + 1 < w1.heap.size := by omega
  have hl2_w1 : w.heap.size + 2 < w1.heap.size := by omega
  have c0_w1 : w1.cell? ⟨w.heap.size, 0, none⟩ = some (.int .i64 an) := below_cell_of hb_w1 (by first | (go_simp; done) | (refine below_cell_of (w := w) ?_ (by first | assumption | (go_simp; done)); (repeat (first | assumption | exact Below.refl _ _ | refine below_set ?_ (by first | omega | (simp; done) | (simp; omega)) _ | refine below_drawn ?_ | refine below_drawnN ?_ _ | refine below_new ?_ _))))
  have c1_w1 : w1.cell? ⟨w.heap.size, 1, none⟩ = some (.int .i64 ad) := below_cell_of hb_w1 (by first | (go_simp; done) | (refine below_cell_of (w := w) ?_ (by first | assumption | (go_simp; done)); (repeat (first | assumption | exact Below.refl _ _ | refine below_set ?_ (by first | omega | (simp; done) | (simp; omega)) _ | refine below_drawn ?_ | refine below_drawnN ?_ _ | refine below_new ?_ _))))
  have c2_w1 : w1.cell? ⟨w.heap.size + 1, 0, none⟩ = some (.int .i64 bn) := below_cell_of hb_w1 (by first | (go_simp; done) | (refine below_cell_of (w := w) ?_ (by first | assumption | (go_simp; done)); (repeat (first | assumption | exact Below.refl _ _ | refine below_set ?_ (by first | omega | (simp; done) | (simp; omega)) _ | refine below_drawn ?_ | refine below_drawnN ?_ _ | refine below_new ?_ _))))
  have c3_w1 : w1.cell? ⟨w.heap.size + 1, 1, none⟩ = some (.int .i64 bd) := below_cell_of hb_w1 (by first | (go_simp; done) | (refine below_cell_of (w := w) ?_ (by first | assumption | (go_simp; done)); (repeat (first | assumption | exact Below.refl _ _ | refine below_set ?_ (by first | omega | (simp; done) | (simp; omega)) _ | refine below_drawn ?_ | refine below_drawnN ?_ _ | refine below_new ?_ _))))
  have d0_w1 : w1.cell? ⟨w.heap.size + 2, 0, none⟩ = some (.int .i64 0) := below_cell_of hb_w1 (by first | (go_simp; done) | (refine below_cell_of (w := w) ?_ (by first | assumption | (go_simp; done)); (repeat (first | assumption | exact Below.refl _ _ | refine below_set ?_ (by first | omega | (simp; done) | (simp; omega)) _ | refine below_drawn ?_ | refine below_drawnN ?_ _ | refine below_new ?_ _))))
  have fzd0_w1 : w1.frozen? ⟨w.heap.size + 2, 0, none⟩ = false := below_frozen_of hb_w1 (by first | omega | (simp; done) | (simp; omega)) (by first | (go_simp; done))
  have d1_w1 : w1.cell? ⟨w.heap.size + 2, 1, none⟩ = some (.int .i64 0) := below_cell_of hb_w1 (by first | (go_simp; done) | (refine below_cell_of (w := w) ?_ (by first | assumption | (go_simp; done)); (repeat (first | assumption | exact Below.refl _ _ | refine below_set ?_ (by first | omega | (simp; done) | (simp; omega)) _ | refine below_drawn ?_ | refine below_drawnN ?_ _ | refine below_new ?_ _))))
  have fzd1_w1 : w1.frozen? ⟨w.heap.size + 2, 1, none⟩ = false := below_frozen_of hb_w1 (by first | omega | (simp; done) | (simp; omega)) (by first | (go_simp; done))
  go_wp2
  exact bodyPost_ret (v := .tuple #[.agg #[.int .i64 0, .int .i64 0], .int .i64 1]) (by simp [results, Try.results31, go_sem, d0_w1, d1_w1]) rfl ⟨rfl, by (repeat (first | assumption | exact Below.refl _ _ | refine below_set ?_ (by first | omega | (simp; done) | (simp; omega)) _ | refine below_drawn ?_ | refine below_drawnN ?_ _ | refine below_new ?_ _))⟩
set_option maxHeartbeats 1000000 in
set_option maxRecDepth 100000 in
theorem of_bad2 (K p q : Nat) (an ad bn bd : Int) (w : World) (ka : an ≤ 9223372036854775807) (kb : bn ≤ 9223372036854775807) (ha : Rt.valid an ad = true) (hb : Rt.valid bn bd = false) : Calls Try.prog 31 #[.agg #[.int .i64 an, .int .i64 ad], .agg #[.int .i64 bn, .int .i64 bd], .func (.func K) #[] #[.pointer (some ⟨p, 0, none⟩), .pointer (some ⟨q, 0, none⟩)]] w fun e w' => e = .returned (.tuple #[.agg #[.int .i64 0, .int .i64 0], .int .i64 1]) ∧ Below w.heap.size w w' := by
  have HA := Lib.hid ha
  have HB := Lib.hid hb
  clear ha hb
  go_enter Try.func31, Try.ntmps31
  go_wp2_with fail
  refine (valid_any an ad _ ka).mono ?_
  rw [HA.out]
  rintro e w1 ⟨rfl, hb_w1⟩
  have hB_w1 : Below w.heap.size w w1 := below_on (by (repeat (first | assumption | exact Below.refl _ _ | refine below_set ?_ (by first | omega | (simp; done) | (simp; omega)) _ | refine below_drawn ?_ | refine below_drawnN ?_ _ | refine below_new ?_ _))) hb_w1
  have hz_w1 := hb_w1.size
  try simp only [World.size_setCell] at hz_w1
  try simp only [World.size_drew] at hz_w1
  try simp only [World.size_drewN] at hz_w1
  try simp only [World.size_alloc] at hz_w1
  try simp only [World.size_setCell] at hz_w1
  try simp only [World.size_drew] at hz_w1
  try simp only [World.size_drewN] at hz_w1
  try simp only [World.size_alloc] at hz_w1
  have hl0_w1 : w.heap.size < w1.heap.size := by omega
  have hl1_w1 : w.heap.size + 1 < w1.heap.size := by omega
  have hl2_w1 : w.heap.size + 2 < w1.heap.size := by omega
  have c0_w1 : w1.cell? ⟨w.heap.size, 0, none⟩ = some (.int .i64 an) := below_cell_of hb_w1 (by first | (go_simp; done) | (refine below_cell_of (w := w) ?_ (by first | assumption | (go_simp; done)); (repeat (first | assumption | exact Below.refl _ _ | refine below_set ?_ (by first | omega | (simp; done) | (simp; omega)) _ | refine below_drawn ?_ | refine below_drawnN ?_ _ | refine below_new ?_ _))))
  have c1_w1 : w1.cell? ⟨w.heap.size, 1, none⟩ = some (.int .i64 ad) := below_cell_of hb_w1 (by first | (go_simp; done) | (refine below_cell_of (w := w) ?_ (by first | assumption | (go_simp; done)); (repeat (first | assumption | exact Below.refl _ _ | refine below_set ?_ (by first | omega | (simp; done) | (simp; omega)) _ | refine below_drawn ?_ | refine below_drawnN ?_ _ | refine below_new ?_ _))))
  have c2_w1 : w1.cell? ⟨w.heap.size + 1, 0, none⟩ = some (.int .i64 bn) := below_cell_of hb_w1 (by first | (go_simp; done) | (refine below_cell_of (w := w) ?_ (by first | assumption | (go_simp; done)); (repeat (first | assumption | exact Below.refl _ _ | refine below_set ?_ (by first | omega | (simp; done) | (simp; omega)) _ | refine below_drawn ?_ | refine below_drawnN ?_ _ | refine below_new ?_ _))))
  have c3_w1 : w1.cell? ⟨w.heap.size + 1, 1, none⟩ = some (.int .i64 bd) := below_cell_of hb_w1 (by first | (go_simp; done) | (refine below_cell_of (w := w) ?_ (by first | assumption | (go_simp; done)); (repeat (first | assumption | exact Below.refl _ _ | refine below_set ?_ (by first | omega | (simp; done) | (simp; omega)) _ | refine below_drawn ?_ | refine below_drawnN ?_ _ | refine below_new ?_ _))))
  have d0_w1 : w1.cell? ⟨w.heap.size + 2, 0, none⟩ = some (.int .i64 0) := below_cell_of hb_w1 (by first | (go_simp; done) | (refine below_cell_of (w := w) ?_ (by first | assumption | (go_simp; done)); (repeat (first | assumption | exact Below.refl _ _ | refine below_set ?_ (by first | omega | (simp; done) | (simp; omega)) _ | refine below_drawn ?_ | refine below_drawnN ?_ _ | refine below_new ?_ _))))
  have fzd0_w1 : w1.frozen? ⟨w.heap.size + 2, 0, none⟩ = false := below_frozen_of hb_w1 (by first | omega | (simp; done) | (simp; omega)) (by first | (go_simp; done))
  have d1_w1 : w1.cell? ⟨w.heap.size + 2, 1, none⟩ = some (.int .i64 0) := below_cell_of hb_w1 (by first | (go_simp; done) | (refine below_cell_of (w := w) ?_ (by first | assumption | (go_simp; done)); (repeat (first | assumption | exact Below.refl _ _ | refine below_set ?_ (by first | omega | (simp; done) | (simp; omega)) _ | refine below_drawn ?_ | refine below_drawnN ?_ _ | refine below_new ?_ _))))
  have fzd1_w1 : w1.frozen? ⟨w.heap.size + 2, 1, none⟩ = false := below_frozen_of hb_w1 (by first | omega | (simp; done) | (simp; omega)) (by first | (go_simp; done))
  go_wp2_with fail
  refine (valid_any bn bd _ kb).mono ?_
  rw [HB.out]
  rintro e w2 ⟨rfl, hb_w2⟩
  have hB_w2 : Below w.heap.size w w2 := below_on (by first | ((repeat (first | assumption | exact Below.refl _ _ | refine below_set ?_ (by first | omega | (simp; done) | (simp; omega)) _ | refine below_drawn ?_ | refine below_drawnN ?_ _ | refine below_new ?_ _)); done) | (refine below_on hB_w1 ?_; (repeat (first | assumption | exact Below.refl _ _ | refine below_set ?_ (by first | omega | (simp; done) | (simp; omega)) _ | refine below_drawn ?_ | refine below_drawnN ?_ _ | refine below_new ?_ _)))) hb_w2
  have hz_w2 := hb_w2.size
  try simp only [World.size_setCell] at hz_w2
  try simp only [World.size_drew] at hz_w2
  try simp only [World.size_drewN] at hz_w2
  try simp only [World.size_alloc] at hz_w2
  try simp only [World.size_setCell] at hz_w2
  try simp only [World.size_drew] at hz_w2
  try simp only [World.size_drewN] at hz_w2
  try simp only [World.size_alloc] at hz_w2
  have hl0_w2 : w.heap.size < w2.heap.size := by omega
  have hl1_w2 : w.heap.size + 1 < w2.heap.size := by omega
  have hl2_w2 : w.heap.size + 2 < w2.heap.size := by omega
  have c0_w2 : w2.cell? ⟨w.heap.size, 0, none⟩ = some (.int .i64 an) := below_cell_of hb_w2 (by first | (go_simp; done) | (refine below_cell_of (w := w1) ?_ (by first | assumption | (go_simp; done)); (repeat (first | assumption | exact Below.refl _ _ | refine below_set ?_ (by first | omega | (simp; done) | (simp; omega)) _ | refine below_drawn ?_ | refine below_drawnN ?_ _ | refine below_new ?_ _))))
  have c1_w2 : w2.cell? ⟨w.heap.size, 1, none⟩ = some (.int .i64 ad) := below_cell_of hb_w2 (by first | (go_simp; done) | (refine below_cell_of (w := w1) ?_ (by first | assumption | (go_simp; done)); (repeat (first | assumption | exact Below.refl _ _ | refine below_set ?_ (by first | omega | (simp; done) | (simp; omega)) _ | refine below_drawn ?_ | refine below_drawnN ?_ _ | refine below_new ?_ _))))
  have c2_w2 : w2.cell? ⟨w.heap.size + 1, 0, none⟩ = some (.int .i64 bn) := below_cell_of hb_w2 (by first | (go_simp; done) | (refine below_cell_of (w := w1) ?_ (by first | assumption | (go_simp; done)); (repeat (first | assumption | exact Below.refl _ _ | refine below_set ?_ (by first | omega | (simp; done) | (simp; omega)) _ | refine below_drawn ?_ | refine below_drawnN ?_ _ | refine below_new ?_ _))))
  have c3_w2 : w2.cell? ⟨w.heap.size + 1, 1, none⟩ = some (.int .i64 bd) := below_cell_of hb_w2 (by first | (go_simp; done) | (refine below_cell_of (w := w1) ?_ (by first | assumption | (go_simp; done)); (repeat (first | assumption | exact Below.refl _ _ | refine below_set ?_ (by first | omega | (simp; done) | (simp; omega)) _ | refine below_drawn ?_ | refine below_drawnN ?_ _ | refine below_new ?_ _))))
  have d0_w2 : w2.cell? ⟨w.heap.size + 2, 0, none⟩ = some (.int .i64 0) := below_cell_of hb_w2 (by first | (go_simp; done) | (refine below_cell_of (w := w1) ?_ (by first | assumption | (go_simp; done)); (repeat (first | assumption | exact Below.refl _ _ | refine below_set ?_ (by first | omega | (simp; done) | (simp; omega)) _ | refine below_drawn ?_ | refine below_drawnN ?_ _ | refine below_new ?_ _))))
  have fzd0_w2 : w2.frozen? ⟨w.heap.size + 2, 0, none⟩ = false := below_frozen_of hb_w2 (by first | omega | (simp; done) | (simp; omega)) (by first | (go_simp; done) | (refine below_frozen_of (w := w1) ?_ (by omega) (by first | assumption | (go_simp; done)); (repeat (first | assumption | exact Below.refl _ _ | refine below_set ?_ (by first | omega | (simp; done) | (simp; omega)) _ | refine below_drawn ?_ | refine below_drawnN ?_ _ | refine below_new ?_ _))))
  have d1_w2 : w2.cell? ⟨w.heap.size + 2, 1, none⟩ = some (.int .i64 0) := below_cell_of hb_w2 (by first | (go_simp; done) | (refine below_cell_of (w := w1) ?_ (by first | assumption | (go_simp; done)); (repeat (first | assumption | exact Below.refl _ _ | refine below_set ?_ (by first | omega | (simp; done) | (simp; omega)) _ | refine below_drawn ?_ | refine below_drawnN ?_ _ | refine below_new ?_ _))))
  have fzd1_w2 : w2.frozen? ⟨w.heap.size + 2, 1, none⟩ = false := below_frozen_of hb_w2 (by first | omega | (simp; done) | (simp; omega)) (by first | (go_simp; done) | (refine below_frozen_of (w := w1) ?_ (by omega) (by first | assumption | (go_simp; done)); (repeat (first | assumption | exact Below.refl _ _ | refine below_set ?_ (by first | omega | (simp; done) | (simp; omega)) _ | refine below_drawn ?_ | refine below_drawnN ?_ _ | refine below_new ?_ _))))
  go_wp2
  exact bodyPost_ret (v := .tuple #[.agg #[.int .i64 0, .int .i64 0], .int .i64 1]) (by simp [results, Try.results31, go_sem, d0_w2, d1_w2]) rfl ⟨rfl, by (repeat (first | assumption | exact Below.refl _ _ | refine below_set ?_ (by first | omega | (simp; done) | (simp; omega)) _ | refine below_drawn ?_ | refine below_drawnN ?_ _ | refine below_new ?_ _))⟩
set_option maxHeartbeats 1000000 in
set_option maxRecDepth 100000 in
theorem of_add (p q : Nat) (an ad bn bd num den x y z : Int) (w : World) (ka : an ≤ 9223372036854775807) (kb : bn ≤ 9223372036854775807) (ha : Rt.valid an ad = true) (hb : Rt.valid bn bd = true) (hp : p < w.heap.size) (hq : q < w.heap.size) (hc : TwoR w p q an ad bn bd) (en : an * bd + bn * ad = num) (ed : ad * bd = den) (h0 : -9000000000000000000 ≤ num) (h1 : num ≤ 9000000000000000000) (h2 : -9000000000000000000 ≤ den) (h3 : den ≤ 9000000000000000000) (hd : den ≠ 0) (hr : Rt.red num den = (x, y, z)) : Calls Try.prog 31 #[.agg #[.int .i64 an, .int .i64 ad], .agg #[.int .i64 bn, .int .i64 bd], .func (.func 32) #[] #[.pointer (some ⟨p, 0, none⟩), .pointer (some ⟨q, 0, none⟩)]] w fun e w' => e = .returned (.tuple #[.agg #[.int .i64 x, .int .i64 y], .int .i64 z]) ∧ Below w.heap.size w w' := by
  obtain ⟨p0, p1, q0, q1⟩ := hc
  have HA := Lib.hid ha
  have HB := Lib.hid hb
  have EN := Lib.hid en
  have ED := Lib.hid ed
  clear ha hb en ed
  have HR := Lib.hid hr
  clear hr
  go_enter Try.func31, Try.ntmps31
  go_wp2_with fail
  refine (valid_any an ad _ ka).mono ?_
  rw [HA.out]
  rintro e w1 ⟨rfl, hb_w1⟩
  have hB_w1 : Below w.heap.size w w1 := below_on (by (repeat (first | assumption | exact Below.refl _ _ | refine below_set ?_ (by first | omega | (simp; done) | (simp; omega)) _ | refine below_drawn ?_ | refine below_drawnN ?_ _ | refine below_new ?_ _))) hb_w1
  have hz_w1 := hb_w1.size
  try simp only [World.size_setCell] at hz_w1
  try simp only [World.size_drew] at hz_w1
  try simp only [World.size_drewN] at hz_w1
  try simp only [World.size_alloc] at hz_w1
  try simp only [World.size_setCell] at hz_w1
  try simp only [World.size_drew] at hz_w1
  try simp only [World.size_drewN] at hz_w1
  try simp only [World.size_alloc] at hz_w1
  have hl0_w1 : w.heap.size < w1.heap.size := by omega
  have hl1_w1 : w.heap.size + 1 < w1.heap.size := by omega
  have hl2_w1 : w.heap.size + 2 < w1.heap.size := by omega
  have hl3_w1 : p < w1.heap.size := by omega
  have hl4_w1 : q < w1.heap.size := by omega
  have c0_w1 : w1.cell? ⟨w.heap.size, 0, none⟩ = some (.int .i64 an) := below_cell_of hb_w1 (by first | (go_simp; done) | (refine below_cell_of (w := w) ?_ (by first | assumption | (go_simp; done)); (repeat (first | assumption | exact Below.refl _ _ | refine below_set ?_ (by first | omega | (simp; done) | (simp; omega)) _ | refine below_drawn ?_ | refine below_drawnN ?_ _ | refine below_new ?_ _))))
  have c1_w1 : w1.cell? ⟨w.heap.size, 1, none⟩ = some (.int .i64 ad) := below_cell_of hb_w1 (by first | (go_simp; done) | (refine below_cell_of (w := w) ?_ (by first | assumption | (go_simp; done)); (repeat (first | assumption | exact Below.refl _ _ | refine below_set ?_ (by first | omega | (simp; done) | (simp; omega)) _ | refine below_drawn ?_ | refine below_drawnN ?_ _ | refine below_new ?_ _))))
  have c2_w1 : w1.cell? ⟨w.heap.size + 1, 0, none⟩ = some (.int .i64 bn) := below_cell_of hb_w1 (by first | (go_simp; done) | (refine below_cell_of (w := w) ?_ (by first | assumption | (go_simp; done)); (repeat (first | assumption | exact Below.refl _ _ | refine below_set ?_ (by first | omega | (simp; done) | (simp; omega)) _ | refine below_drawn ?_ | refine below_drawnN ?_ _ | refine below_new ?_ _))))
  have c3_w1 : w1.cell? ⟨w.heap.size + 1, 1, none⟩ = some (.int .i64 bd) := below_cell_of hb_w1 (by first | (go_simp; done) | (refine below_cell_of (w := w) ?_ (by first | assumption | (go_simp; done)); (repeat (first | assumption | exact Below.refl _ _ | refine below_set ?_ (by first | omega | (simp; done) | (simp; omega)) _ | refine below_drawn ?_ | refine below_drawnN ?_ _ | refine below_new ?_ _))))
  have d0_w1 : w1.cell? ⟨w.heap.size + 2, 0, none⟩ = some (.int .i64 0) := below_cell_of hb_w1 (by first | (go_simp; done) | (refine below_cell_of (w := w) ?_ (by first | assumption | (go_simp; done)); (repeat (first | assumption | exact Below.refl _ _ | refine below_set ?_ (by first | omega | (simp; done) | (simp; omega)) _ | refine below_drawn ?_ | refine below_drawnN ?_ _ | refine below_new ?_ _))))
  have fzd0_w1 : w1.frozen? ⟨w.heap.size + 2, 0, none⟩ = false := below_frozen_of hb_w1 (by first | omega | (simp; done) | (simp; omega)) (by first | (go_simp; done))
  have d1_w1 : w1.cell? ⟨w.heap.size + 2, 1, none⟩ = some (.int .i64 0) := below_cell_of hb_w1 (by first | (go_simp; done) | (refine below_cell_of (w := w) ?_ (by first | assumption | (go_simp; done)); (repeat (first | assumption | exact Below.refl _ _ | refine below_set ?_ (by first | omega | (simp; done) | (simp; omega)) _ | refine below_drawn ?_ | refine below_drawnN ?_ _ | refine below_new ?_ _))))
  have fzd1_w1 : w1.frozen? ⟨w.heap.size + 2, 1, none⟩ = false := below_frozen_of hb_w1 (by first | omega | (simp; done) | (simp; omega)) (by first | (go_simp; done))
  have p0_w1 : w1.cell? ⟨p, 0, none⟩ = some (.int .i64 an) := below_cell_of hb_w1 (by first | (go_simp; done) | (refine below_cell_of (w := w) ?_ (by first | assumption | (go_simp; done)); (repeat (first | assumption | exact Below.refl _ _ | refine below_set ?_ (by first | omega | (simp; done) | (simp; omega)) _ | refine below_drawn ?_ | refine below_drawnN ?_ _ | refine below_new ?_ _))))
  have p1_w1 : w1.cell? ⟨p, 1, none⟩ = some (.int .i64 ad) := below_cell_of hb_w1 (by first | (go_simp; done) | (refine below_cell_of (w := w) ?_ (by first | assumption | (go_simp; done)); (repeat (first | assumption | exact Below.refl _ _ | refine below_set ?_ (by first | omega | (simp; done) | (simp; omega)) _ | refine below_drawn ?_ | refine below_drawnN ?_ _ | refine below_new ?_ _))))
  have q0_w1 : w1.cell? ⟨q, 0, none⟩ = some (.int .i64 bn) := below_cell_of hb_w1 (by first | (go_simp; done) | (refine below_cell_of (w := w) ?_ (by first | assumption | (go_simp; done)); (repeat (first | assumption | exact Below.refl _ _ | refine below_set ?_ (by first | omega | (simp; done) | (simp; omega)) _ | refine below_drawn ?_ | refine below_drawnN ?_ _ | refine below_new ?_ _))))
  have q1_w1 : w1.cell? ⟨q, 1, none⟩ = some (.int .i64 bd) := below_cell_of hb_w1 (by first | (go_simp; done) | (refine below_cell_of (w := w) ?_ (by first | assumption | (go_simp; done)); (repeat (first | assumption | exact Below.refl _ _ | refine below_set ?_ (by first | omega | (simp; done) | (simp; omega)) _ | refine below_drawn ?_ | refine below_drawnN ?_ _ | refine below_new ?_ _))))
  go_wp2_with fail
  refine (valid_any bn bd _ kb).mono ?_
  rw [HB.out]
  rintro e w2 ⟨rfl, hb_w2⟩
  have hB_w2 : Below w.heap.size w w2 := below_on (by first | ((repeat (first | assumption | exact Below.refl _ _ | refine below_set ?_ (by first | omega | (simp; done) | (simp; omega)) _ | refine below_drawn ?_ | refine below_drawnN ?_ _ | refine below_new ?_ _)); done) | (refine below_on hB_w1 ?_; (repeat (first | assumption | exact Below.refl _ _ | refine below_set ?_ (by first | omega | (simp; done) | (simp; omega)) _ | refine below_drawn ?_ | refine below_drawnN ?_ _ | refine below_new ?_ _)))) hb_w2
  have hz_w2 := hb_w2.size
  try simp only [World.size_setCell] at hz_w2
  try simp only [World.size_drew] at hz_w2
  try simp only [World.size_drewN] at hz_w2
  try simp only [World.size_alloc] at hz_w2
  try simp only [World.size_setCell] at hz_w2
  try simp only [World.size_drew] at hz_w2
  try simp only [World.size_drewN] at hz_w2
  try simp only [World.size_alloc] at hz_w2
  have hl0_w2 : w.heap.size < w2.heap.size := by omega
  have hl1_w2 : w.heap.size + 1 < w2.heap.size := by omega
  have hl2_w2 : w.heap.size + 2 < w2.heap.size := by omega
  have hl3_w2 : p < w2.heap.size := by omega
  have hl4_w2 : q < w2.heap.size := by omega
  have c0_w2 : w2.cell? ⟨w.heap.size, 0, none⟩ = some (.int .i64 an) := below_cell_of hb_w2 (by first | (go_simp; done) | (refine below_cell_of (w := w1) ?_ (by first | assumption | (go_simp; done)); (repeat (first | assumption | exact Below.refl _ _ | refine below_set ?_ (by first | omega | (simp; done) | (simp; omega)) _ | refine below_drawn ?_ | refine below_drawnN ?_ _ | refine below_new ?_ _))))
  have c1_w2 : w2.cell? ⟨w.heap.size, 1, none⟩ = some (.int .i64 ad) := below_cell_of hb_w2 (by first | (go_simp; done) | (refine below_cell_of (w := w1) ?_ (by first | assumption | (go_simp; done)); (repeat (first | assumption | exact Below.refl _ _ | refine below_set ?_ (by first | omega | (simp; done) | (simp; omega)) _ | refine below_drawn ?_ | refine below_drawnN ?_ _ | refine below_new ?_ _))))
  have c2_w2 : w2.cell? ⟨w.heap.size + 1, 0, none⟩ = some (.int .i64 bn) := below_cell_of hb_w2 (by first | (go_simp; done) | (refine below_cell_of (w := w1) ?_ (by first | assumption | (go_simp; done)); (repeat (first | assumption | exact Below.refl _ _ | refine below_set ?_ (by first | omega | (simp; done) | (simp; omega)) _ | refine below_drawn ?_ | refine below_drawnN ?_ _ | refine below_new ?_ _))))
  have c3_w2 : w2.cell? ⟨w.heap.size + 1, 1, none⟩ = some (.int .i64 bd) := below_cell_of hb_w2 (by first | (go_simp; done) | (refine below_cell_of (w := w1) ?_ (by first | assumption | (go_simp; done)); (repeat (first | assumption | exact Below.refl _ _ | refine below_set ?_ (by first | omega | (simp; done) | (simp; omega)) _ | refine below_drawn ?_ | refine below_drawnN ?_ _ | refine below_new ?_ _))))
  have d0_w2 : w2.cell? ⟨w.heap.size + 2, 0, none⟩ = some (.int .i64 0) := below_cell_of hb_w2 (by first | (go_simp; done) | (refine below_cell_of (w := w1) ?_ (by first | assumption | (go_simp; done)); (repeat (first | assumption | exact Below.refl _ _ | refine below_set ?_ (by first | omega | (simp; done) | (simp; omega)) _ | refine below_drawn ?_ | refine below_drawnN ?_ _ | refine below_new ?_ _))))
  have fzd0_w2 : w2.frozen? ⟨w.heap.size + 2, 0, none⟩ = false := below_frozen_of hb_w2 (by first | omega | (simp; done) | (simp; omega)) (by first | (go_simp; done) | (refine below_frozen_of (w := w1) ?_ (by omega) (by first | assumption | (go_simp; done)); (repeat (first | assumption | exact Below.refl _ _ | refine below_set ?_ (by first | omega | (simp; done) | (simp; omega)) _ | refine below_drawn ?_ | refine below_drawnN ?_ _ | refine below_new ?_ _))))
  have d1_w2 : w2.cell? ⟨w.heap.size + 2, 1, none⟩ = some (.int .i64 0) := below_cell_of hb_w2 (by first | (go_simp; done) | (refine below_cell_of (w := w1) ?_ (by first | assumption | (go_simp; done)); (repeat (first | assumption | exact Below.refl _ _ | refine below_set ?_ (by first | omega | (simp; done) | (simp; omega)) _ | refine below_drawn ?_ | refine below_drawnN ?_ _ | refine below_new ?_ _))))
  have fzd1_w2 : w2.frozen? ⟨w.heap.size + 2, 1, none⟩ = false := below_frozen_of hb_w2 (by first | omega | (simp; done) | (simp; omega)) (by first | (go_simp; done) | (refine below_frozen_of (w := w1) ?_ (by omega) (by first | assumption | (go_simp; done)); (repeat (first | assumption | exact Below.refl _ _ | refine below_set ?_ (by first | omega | (simp; done) | (simp; omega)) _ | refine below_drawn ?_ | refine below_drawnN ?_ _ | refine below_new ?_ _))))
  have p0_w2 : w2.cell? ⟨p, 0, none⟩ = some (.int .i64 an) := below_cell_of hb_w2 (by first | (go_simp; done) | (refine below_cell_of (w := w1) ?_ (by first | assumption | (go_simp; done)); (repeat (first | assumption | exact Below.refl _ _ | refine below_set ?_ (by first | omega | (simp; done) | (simp; omega)) _ | refine below_drawn ?_ | refine below_drawnN ?_ _ | refine below_new ?_ _))))
  have p1_w2 : w2.cell? ⟨p, 1, none⟩ = some (.int .i64 ad) := below_cell_of hb_w2 (by first | (go_simp; done) | (refine below_cell_of (w := w1) ?_ (by first | assumption | (go_simp; done)); (repeat (first | assumption | exact Below.refl _ _ | refine below_set ?_ (by first | omega | (simp; done) | (simp; omega)) _ | refine below_drawn ?_ | refine below_drawnN ?_ _ | refine below_new ?_ _))))
  have q0_w2 : w2.cell? ⟨q, 0, none⟩ = some (.int .i64 bn) := below_cell_of hb_w2 (by first | (go_simp; done) | (refine below_cell_of (w := w1) ?_ (by first | assumption | (go_simp; done)); (repeat (first | assumption | exact Below.refl _ _ | refine below_set ?_ (by first | omega | (simp; done) | (simp; omega)) _ | refine below_drawn ?_ | refine below_drawnN ?_ _ | refine below_new ?_ _))))
  have q1_w2 : w2.cell? ⟨q, 1, none⟩ = some (.int .i64 bd) := below_cell_of hb_w2 (by first | (go_simp; done) | (refine below_cell_of (w := w1) ?_ (by first | assumption | (go_simp; done)); (repeat (first | assumption | exact Below.refl _ _ | refine below_set ?_ (by first | omega | (simp; done) | (simp; omega)) _ | refine below_drawn ?_ | refine below_drawnN ?_ _ | refine below_new ?_ _))))
  go_wp2_with fail
  refine (add_clo p q an ad bn bd _ HA.out HB.out ⟨p0_w2, p1_w2, q0_w2, q1_w2⟩).mono ?_
  rw [EN.out, ED.out]
  rintro e w3 ⟨rfl, hb_w3⟩
  have hB_w3 : Below w.heap.size w w3 := below_on (by first | ((repeat (first | assumption | exact Below.refl _ _ | refine below_set ?_ (by first | omega | (simp; done) | (simp; omega)) _ | refine below_drawn ?_ | refine below_drawnN ?_ _ | refine below_new ?_ _)); done) | (refine below_on hB_w2 ?_; (repeat (first | assumption | exact Below.refl _ _ | refine below_set ?_ (by first | omega | (simp; done) | (simp; omega)) _ | refine below_drawn ?_ | refine below_drawnN ?_ _ | refine below_new ?_ _)))) hb_w3
  have hz_w3 := hb_w3.size
  try simp only [World.size_setCell] at hz_w3
  try simp only [World.size_drew] at hz_w3
  try simp only [World.size_drewN] at hz_w3
  try simp only [World.size_alloc] at hz_w3
  try simp only [World.size_setCell] at hz_w3
  try simp only [World.size_drew] at hz_w3
  try simp only [World.size_drewN] at hz_w3
  try simp only [World.size_alloc] at hz_w3
  have hl0_w3 : w.heap.size < w3.heap.size := by omega
  have hl1_w3 : w.heap.size + 1 < w3.heap.size := by omega
  have hl2_w3 : w.heap.size + 2 < w3.heap.size := by omega
  have hl3_w3 : p < w3.heap.size := by omega
  have hl4_w3 : q < w3.heap.size := by omega
  have c0_w3 : w3.cell? ⟨w.heap.size, 0, none⟩ = some (.int .i64 an) := below_cell_of hb_w3 (by first | (go_simp; done) | (refine below_cell_of (w := w2) ?_ (by first | assumption | (go_simp; done)); (repeat (first | assumption | exact Below.refl _ _ | refine below_set ?_ (by first | omega | (simp; done) | (simp; omega)) _ | refine below_drawn ?_ | refine below_drawnN ?_ _ | refine below_new ?_ _))))
  have c1_w3 : w3.cell? ⟨w.heap.size, 1, none⟩ = some (.int .i64 ad) := below_cell_of hb_w3 (by first | (go_simp; done) | (refine below_cell_of (w := w2) ?_ (by first | assumption | (go_simp; done)); (repeat (first | assumption | exact Below.refl _ _ | refine below_set ?_ (by first | omega | (simp; done) | (simp; omega)) _ | refine below_drawn ?_ | refine below_drawnN ?_ _ | refine below_new ?_ _))))
  have c2_w3 : w3.cell? ⟨w.heap.size + 1, 0, none⟩ = some (.int .i64 bn) := below_cell_of hb_w3 (by first | (go_simp; done) | (refine below_cell_of (w := w2) ?_ (by first | assumption | (go_simp; done)); (repeat (first | assumption | exact Below.refl _ _ | refine below_set ?_ (by first | omega | (simp; done) | (simp; omega)) _ | refine below_drawn ?_ | refine below_drawnN ?_ _ | refine below_new ?_ _))))
  have c3_w3 : w3.cell? ⟨w.heap.size + 1, 1, none⟩ = some (.int .i64 bd) := below_cell_of hb_w3 (by first | (go_simp; done) | (refine below_cell_of (w := w2) ?_ (by first | assumption | (go_simp; done)); (repeat (first | assumption | exact Below.refl _ _ | refine below_set ?_ (by first | omega | (simp; done) | (simp; omega)) _ | refine below_drawn ?_ | refine below_drawnN ?_ _ | refine below_new ?_ _))))
  have d0_w3 : w3.cell? ⟨w.heap.size + 2, 0, none⟩ = some (.int .i64 0) := below_cell_of hb_w3 (by first | (go_simp; done) | (refine below_cell_of (w := w2) ?_ (by first | assumption | (go_simp; done)); (repeat (first | assumption | exact Below.refl _ _ | refine below_set ?_ (by first | omega | (simp; done) | (simp; omega)) _ | refine below_drawn ?_ | refine below_drawnN ?_ _ | refine below_new ?_ _))))
  have fzd0_w3 : w3.frozen? ⟨w.heap.size + 2, 0, none⟩ = false := below_frozen_of hb_w3 (by first | omega | (simp; done) | (simp; omega)) (by first | (go_simp; done) | (refine below_frozen_of (w := w2) ?_ (by omega) (by first | assumption | (go_simp; done)); (repeat (first | assumption | exact Below.refl _ _ | refine below_set ?_ (by first | omega | (simp; done) | (simp; omega)) _ | refine below_drawn ?_ | refine below_drawnN ?_ _ | refine below_new ?_ _))))
  have d1_w3 : w3.cell? ⟨w.heap.size + 2, 1, none⟩ = some (.int .i64 0) := below_cell_of hb_w3 (by first | (go_simp; done) | (refine below_cell_of (w := w2) ?_ (by first | assumption | (go_simp; done)); (repeat (first | assumption | exact Below.refl _ _ | refine below_set ?_ (by first | omega | (simp; done) | (simp; omega)) _ | refine below_drawn ?_ | refine below_drawnN ?_ _ | refine below_new ?_ _))))
  have fzd1_w3 : w3.frozen? ⟨w.heap.size + 2, 1, none⟩ = false := below_frozen_of hb_w3 (by first | omega | (simp; done) | (simp; omega)) (by first | (go_simp; done) | (refine below_frozen_of (w := w2) ?_ (by omega) (by first | assumption | (go_simp; done)); (repeat (first | assumption | exact Below.refl _ _ | refine below_set ?_ (by first | omega | (simp; done) | (simp; omega)) _ | refine below_drawn ?_ | refine below_drawnN ?_ _ | refine below_new ?_ _))))
  have p0_w3 : w3.cell? ⟨p, 0, none⟩ = some (.int .i64 an) := below_cell_of hb_w3 (by first | (go_simp; done) | (refine below_cell_of (w := w2) ?_ (by first | assumption | (go_simp; done)); (repeat (first | assumption | exact Below.refl _ _ | refine below_set ?_ (by first | omega | (simp; done) | (simp; omega)) _ | refine below_drawn ?_ | refine below_drawnN ?_ _ | refine below_new ?_ _))))
  have p1_w3 : w3.cell? ⟨p, 1, none⟩ = some (.int .i64 ad) := below_cell_of hb_w3 (by first | (go_simp; done) | (refine below_cell_of (w := w2) ?_ (by first | assumption | (go_simp; done)); (repeat (first | assumption | exact Below.refl _ _ | refine below_set ?_ (by first | omega | (simp; done) | (simp; omega)) _ | refine below_drawn ?_ | refine below_drawnN ?_ _ | refine below_new ?_ _))))
  have q0_w3 : w3.cell? ⟨q, 0, none⟩ = some (.int .i64 bn) := below_cell_of hb_w3 (by first | (go_simp; done) | (refine below_cell_of (w := w2) ?_ (by first | assumption | (go_simp; done)); (repeat (first | assumption | exact Below.refl _ _ | refine below_set ?_ (by first | omega | (simp; done) | (simp; omega)) _ | refine below_drawn ?_ | refine below_drawnN ?_ _ | refine below_new ?_ _))))
  have q1_w3 : w3.cell? ⟨q, 1, none⟩ = some (.int .i64 bd) := below_cell_of hb_w3 (by first | (go_simp; done) | (refine below_cell_of (w := w2) ?_ (by first | assumption | (go_simp; done)); (repeat (first | assumption | exact Below.refl _ _ | refine below_set ?_ (by first | omega | (simp; done) | (simp; omega)) _ | refine below_drawn ?_ | refine below_drawnN ?_ _ | refine below_new ?_ _))))
  go_wp2_with fail
  refine (checked_any num den _ h0 h1 h2 h3 hd).mono ?_
  rw [HR.out]
  rintro e w4 ⟨rfl, hb_w4⟩
  have hB_w4 : Below w.heap.size w w4 := below_on (by first | ((repeat (first | assumption | exact Below.refl _ _ | refine below_set ?_ (by first | omega | (simp; done) | (simp; omega)) _ | refine below_drawn ?_ | refine below_drawnN ?_ _ | refine below_new ?_ _)); done) | (refine below_on hB_w3 ?_; (repeat (first | assumption | exact Below.refl _ _ | refine below_set ?_ (by first | omega | (simp; done) | (simp; omega)) _ | refine below_drawn ?_ | refine below_drawnN ?_ _ | refine below_new ?_ _)))) hb_w4
  have hz_w4 := hb_w4.size
  try simp only [World.size_setCell] at hz_w4
  try simp only [World.size_drew] at hz_w4
  try simp only [World.size_drewN] at hz_w4
  try simp only [World.size_alloc] at hz_w4
  try simp only [World.size_setCell] at hz_w4
  try simp only [World.size_drew] at hz_w4
  try simp only [World.size_drewN] at hz_w4
  try simp only [World.size_alloc] at hz_w4
  have hl0_w4 : w.heap.size < w4.heap.size := by omega
  have hl1_w4 : w.heap.size + 1 < w4.heap.size := by omega
  have hl2_w4 : w.heap.size + 2 < w4.heap.size := by omega
  have hl3_w4 : p < w4.heap.size := by omega
  have hl4_w4 : q < w4.heap.size := by omega
  have c0_w4 : w4.cell? ⟨w.heap.size, 0, none⟩ = some (.int .i64 an) := below_cell_of hb_w4 (by first | (go_simp; done) | (refine below_cell_of (w := w3) ?_ (by first | assumption | (go_simp; done)); (repeat (first | assumption | exact Below.refl _ _ | refine below_set ?_ (by first | omega | (simp; done) | (simp; omega)) _ | refine below_drawn ?_ | refine below_drawnN ?_ _ | refine below_new ?_ _))))
  have c1_w4 : w4.cell? ⟨w.heap.size, 1, none⟩ = some (.int .i64 ad) := below_cell_of hb_w4 (by first | (go_simp; done) | (refine below_cell_of (w := w3) ?_ (by first | assumption | (go_simp; done)); (repeat (first | assumption | exact Below.refl _ _ | refine below_set ?_ (by first | omega | (simp; done) | (simp; omega)) _ | refine below_drawn ?_ | refine below_drawnN ?_ _ | refine below_new ?_ _))))
  have c2_w4 : w4.cell? ⟨w.heap.size + 1, 0, none⟩ = some (.int .i64 bn) := below_cell_of hb_w4 (by first | (go_simp; done) | (refine below_cell_of (w := w3) ?_ (by first | assumption | (go_simp; done)); (repeat (first | assumption | exact Below.refl _ _ | refine below_set ?_ (by first | omega | (simp; done) | (simp; omega)) _ | refine below_drawn ?_ | refine below_drawnN ?_ _ | refine below_new ?_ _))))
  have c3_w4 : w4.cell? ⟨w.heap.size + 1, 1, none⟩ = some (.int .i64 bd) := below_cell_of hb_w4 (by first | (go_simp; done) | (refine below_cell_of (w := w3) ?_ (by first | assumption | (go_simp; done)); (repeat (first | assumption | exact Below.refl _ _ | refine below_set ?_ (by first | omega | (simp; done) | (simp; omega)) _ | refine below_drawn ?_ | refine below_drawnN ?_ _ | refine below_new ?_ _))))
  have d0_w4 : w4.cell? ⟨w.heap.size + 2, 0, none⟩ = some (.int .i64 0) := below_cell_of hb_w4 (by first | (go_simp; done) | (refine below_cell_of (w := w3) ?_ (by first | assumption | (go_simp; done)); (repeat (first | assumption | exact Below.refl _ _ | refine below_set ?_ (by first | omega | (simp; done) | (simp; omega)) _ | refine below_drawn ?_ | refine below_drawnN ?_ _ | refine below_new ?_ _))))
  have fzd0_w4 : w4.frozen? ⟨w.heap.size + 2, 0, none⟩ = false := below_frozen_of hb_w4 (by first | omega | (simp; done) | (simp; omega)) (by first | (go_simp; done) | (refine below_frozen_of (w := w3) ?_ (by omega) (by first | assumption | (go_simp; done)); (repeat (first | assumption | exact Below.refl _ _ | refine below_set ?_ (by first | omega | (simp; done) | (simp; omega)) _ | refine below_drawn ?_ | refine below_drawnN ?_ _ | refine below_new ?_ _))))
  have d1_w4 : w4.cell? ⟨w.heap.size + 2, 1, none⟩ = some (.int .i64 0) := below_cell_of hb_w4 (by first | (go_simp; done) | (refine below_cell_of (w := w3) ?_ (by first | assumption | (go_simp; done)); (repeat (first | assumption | exact Below.refl _ _ | refine below_set ?_ (by first | omega | (simp; done) | (simp; omega)) _ | refine below_drawn ?_ | refine below_drawnN ?_ _ | refine below_new ?_ _))))
  have fzd1_w4 : w4.frozen? ⟨w.heap.size + 2, 1, none⟩ = false := below_frozen_of hb_w4 (by first | omega | (simp; done) | (simp; omega)) (by first | (go_simp; done) | (refine below_frozen_of (w := w3) ?_ (by omega) (by first | assumption | (go_simp; done)); (repeat (first | assumption | exact Below.refl _ _ | refine below_set ?_ (by first | omega | (simp; done) | (simp; omega)) _ | refine below_drawn ?_ | refine below_drawnN ?_ _ | refine below_new ?_ _))))
  have p0_w4 : w4.cell? ⟨p, 0, none⟩ = some (.int .i64 an) := below_cell_of hb_w4 (by first | (go_simp; done) | (refine below_cell_of (w := w3) ?_ (by first | assumption | (go_simp; done)); (repeat (first | assumption | exact Below.refl _ _ | refine below_set ?_ (by first | omega | (simp; done) | (simp; omega)) _ | refine below_drawn ?_ | refine below_drawnN ?_ _ | refine below_new ?_ _))))
  have p1_w4 : w4.cell? ⟨p, 1, none⟩ = some (.int .i64 ad) := below_cell_of hb_w4 (by first | (go_simp; done) | (refine below_cell_of (w := w3) ?_ (by first | assumption | (go_simp; done)); (repeat (first | assumption | exact Below.refl _ _ | refine below_set ?_ (by first | omega | (simp; done) | (simp; omega)) _ | refine below_drawn ?_ | refine below_drawnN ?_ _ | refine below_new ?_ _))))
  have q0_w4 : w4.cell? ⟨q, 0, none⟩ = some (.int .i64 bn) := below_cell_of hb_w4 (by first | (go_simp; done) | (refine below_cell_of (w := w3) ?_ (by first | assumption | (go_simp; done)); (repeat (first | assumption | exact Below.refl _ _ | refine below_set ?_ (by first | omega | (simp; done) | (simp; omega)) _ | refine below_drawn ?_ | refine below_drawnN ?_ _ | refine below_new ?_ _))))
  have q1_w4 : w4.cell? ⟨q, 1, none⟩ = some (.int .i64 bd) := below_cell_of hb_w4 (by first | (go_simp; done) | (refine below_cell_of (w := w3) ?_ (by first | assumption | (go_simp; done)); (repeat (first | assumption | exact Below.refl _ _ | refine below_set ?_ (by first | omega | (simp; done) | (simp; omega)) _ | refine below_drawn ?_ | refine below_drawnN ?_ _ | refine below_new ?_ _))))
  go_wp2
  exact bodyPost_ret (v := .tuple #[.agg #[.int .i64 x, .int .i64 y], .int .i64 z]) (by simp [results, Try.results31, go_sem, d0_w4, d1_w4]) rfl ⟨rfl, by (repeat (first | assumption | exact Below.refl _ _ | refine below_set ?_ (by first | omega | (simp; done) | (simp; omega)) _ | refine below_drawn ?_ | refine below_drawnN ?_ _ | refine below_new ?_ _))⟩
theorem of_add_any (p q : Nat) (an ad bn bd : Int) (w : World) (ka : an ≤ 9223372036854775807) (kb : bn ≤ 9223372036854775807) (hp : p < w.heap.size) (hq : q < w.heap.size) (hc : TwoR w p q an ad bn bd) : Calls Try.prog 31 #[.agg #[.int .i64 an, .int .i64 ad], .agg #[.int .i64 bn, .int .i64 bd], .func (.func 32) #[] #[.pointer (some ⟨p, 0, none⟩), .pointer (some ⟨q, 0, none⟩)]] w fun e w' => e = .returned (.tuple #[.agg #[.int .i64 (Rt.add an ad bn bd).1, .int .i64 (Rt.add an ad bn bd).2.1], .int .i64 (Rt.add an ad bn bd).2.2]) ∧ Below w.heap.size w w' := by
  unfold Rt.add Rt.op
  cases ha : Rt.valid an ad with
  | false => rw [if_neg (by simp)]; exact of_bad1 32 p q an ad bn bd w ka kb ha
  | true =>
    cases hb : Rt.valid bn bd with
    | false => rw [if_neg (by simp)]; exact of_bad2 32 p q an ad bn bd w ka kb ha hb
    | true =>
      rw [if_pos ⟨rfl, rfl⟩]
      obtain ⟨a0, a1, a2, a3⟩ := Rt.valid_bd ha
      obtain ⟨b0, b1, b2, b3⟩ := Rt.valid_bd hb
      obtain ⟨m0, n0⟩ := prod_in (a := ad) (b := bd) (by omega) (by omega) (by omega) (by omega)
      obtain ⟨m1, n1⟩ := prod_in (a := an) (b := bd) (by omega) (by omega) (by omega) (by omega)
      obtain ⟨m2, n2⟩ := prod_in (a := bn) (b := ad) (by omega) (by omega) (by omega) (by omega)
      by_cases hd : ad * bd = 0
      · have := Int.mul_pos (show 0 < ad by omega) (show 0 < bd by omega); omega
      · rw [if_neg hd]; exact of_add p q an ad bn bd _ _ _ _ _ w ka kb ha hb hp hq hc rfl rfl (by omega) (by omega) (by omega) (by omega) hd rfl
set_option maxHeartbeats 1000000 in
theorem add_good (an ad bn bd x y z : Int) (w : World) (ka : an ≤ 9223372036854775807) (kb : bn ≤ 9223372036854775807) (hr : Rt.add an ad bn bd = (x, y, z)) : Calls Try.prog 13 #[.agg #[.int .i64 an, .int .i64 ad], .agg #[.int .i64 bn, .int .i64 bd]] w fun e w' => e = .returned (.tuple #[.agg #[.int .i64 x, .int .i64 y], .int .i64 z]) ∧ Below w.heap.size w w' := by
  have hmf : ∀ (fn : Fn) (first cap : Array Value) (w : World), (Instr.makeFunc fn first cap).run Try.prog w = .ok (.func fn first cap) w := fun _ _ _ _ => rfl
  have HR := Lib.hid hr
  clear hr
  go_enter Try.func13, Try.ntmps13
  go_wp2_with fail
  refine (of_add_any w.heap.size (w.heap.size + 1) an ad bn bd _ ka kb (by simp; omega) (by simp) ⟨by go_simp, by go_simp, by go_simp, by go_simp⟩).mono ?_
  rw [HR.out]
  rintro e w1 ⟨rfl, hb_w1⟩
  have hB_w1 : Below w.heap.size w w1 := below_on (by (repeat (first | assumption | exact Below.refl _ _ | refine below_set ?_ (by first | omega | (simp; done) | (simp; omega)) _ | refine below_drawn ?_ | refine below_drawnN ?_ _ | refine below_new ?_ _))) hb_w1
  have hz_w1 := hb_w1.size
  try simp only [World.size_setCell] at hz_w1
  try simp only [World.size_drew] at hz_w1
  try simp only [World.size_drewN] at hz_w1
  try simp only [World.size_alloc] at hz_w1
  try simp only [World.size_setCell] at hz_w1
  try simp only [World.size_drew] at hz_w1
  try simp only [World.size_drewN] at hz_w1
  try simp only [World.size_alloc] at hz_w1
  have hl0_w1 : w.heap.size + 2 < w1.heap.size := by omega
  have d0_w1 : w1.cell? ⟨w.heap.size + 2, 0, none⟩ = some (.int .i64 0) := below_cell_of hb_w1 (by first | (go_simp; done) | (refine below_cell_of (w := w) ?_ (by first | assumption | (go_simp; done)); (repeat (first | assumption | exact Below.refl _ _ | refine below_set ?_ (by first | omega | (simp; done) | (simp; omega)) _ | refine below_drawn ?_ | refine below_drawnN ?_ _ | refine below_new ?_ _))))
  have fzd0_w1 : w1.frozen? ⟨w.heap.size + 2, 0, none⟩ = false := below_frozen_of hb_w1 (by first | omega | (simp; done) | (simp; omega)) (by first | (go_simp; done))
  have d1_w1 : w1.cell? ⟨w.heap.size + 2, 1, none⟩ = some (.int .i64 0) := below_cell_of hb_w1 (by first | (go_simp; done) | (refine below_cell_of (w := w) ?_ (by first | assumption | (go_simp; done)); (repeat (first | assumption | exact Below.refl _ _ | refine below_set ?_ (by first | omega | (simp; done) | (simp; omega)) _ | refine below_drawn ?_ | refine below_drawnN ?_ _ | refine below_new ?_ _))))
  have fzd1_w1 : w1.frozen? ⟨w.heap.size + 2, 1, none⟩ = false := below_frozen_of hb_w1 (by first | omega | (simp; done) | (simp; omega)) (by first | (go_simp; done))
  go_wp2
  exact bodyPost_ret (v := .tuple #[.agg #[.int .i64 x, .int .i64 y], .int .i64 z]) (by simp [results, Try.results13, go_sem, d0_w1, d1_w1]) rfl ⟨rfl, by (repeat (first | assumption | exact Below.refl _ _ | refine below_set ?_ (by first | omega | (simp; done) | (simp; omega)) _ | refine below_drawn ?_ | refine below_drawnN ?_ _ | refine below_new ?_ _))⟩
theorem add_any (an ad bn bd : Int) (w : World) (ka : an ≤ 9223372036854775807) (kb : bn ≤ 9223372036854775807) : Calls Try.prog 13 #[.agg #[.int .i64 an, .int .i64 ad], .agg #[.int .i64 bn, .int .i64 bd]] w fun e w' => e = .returned (.tuple #[.agg #[.int .i64 (Rt.add an ad bn bd).1, .int .i64 (Rt.add an ad bn bd).2.1], .int .i64 (Rt.add an ad bn bd).2.2]) ∧ Below w.heap.size w w' := add_good an ad bn bd _ _ _ w ka kb rfl
set_option maxHeartbeats 1000000 in
set_option maxRecDepth 100000 in
theorem of_sub (p q : Nat) (an ad bn bd num den x y z : Int) (w : World) (ka : an ≤ 9223372036854775807) (kb : bn ≤ 9223372036854775807) (ha : Rt.valid an ad = true) (hb : Rt.valid bn bd = true) (hp : p < w.heap.size) (hq : q < w.heap.size) (hc : TwoR w p q an ad bn bd) (en : an * bd - bn * ad = num) (ed : ad * bd = den) (h0 : -9000000000000000000 ≤ num) (h1 : num ≤ 9000000000000000000) (h2 : -9000000000000000000 ≤ den) (h3 : den ≤ 9000000000000000000) (hd : den ≠ 0) (hr : Rt.red num den = (x, y, z)) : Calls Try.prog 31 #[.agg #[.int .i64 an, .int .i64 ad], .agg #[.int .i64 bn, .int .i64 bd], .func (.func 33) #[] #[.pointer (some ⟨p, 0, none⟩), .pointer (some ⟨q, 0, none⟩)]] w fun e w' => e = .returned (.tuple #[.agg #[.int .i64 x, .int .i64 y], .int .i64 z]) ∧ Below w.heap.size w w' := by
  obtain ⟨p0, p1, q0, q1⟩ := hc
  have HA := Lib.hid ha
  have HB := Lib.hid hb
  have EN := Lib.hid en
  have ED := Lib.hid ed
  clear ha hb en ed
  have HR := Lib.hid hr
  clear hr
  go_enter Try.func31, Try.ntmps31
  go_wp2_with fail
  refine (valid_any an ad _ ka).mono ?_
  rw [HA.out]
  rintro e w1 ⟨rfl, hb_w1⟩
  have hB_w1 : Below w.heap.size w w1 := below_on (by (repeat (first | assumption | exact Below.refl _ _ | refine below_set ?_ (by first | omega | (simp; done) | (simp; omega)) _ | refine below_drawn ?_ | refine below_drawnN ?_ _ | refine below_new ?_ _))) hb_w1
  have hz_w1 := hb_w1.size
  try simp only [World.size_setCell] at hz_w1
  try simp only [World.size_drew] at hz_w1
  try simp only [World.size_drewN] at hz_w1
  try simp only [World.size_alloc] at hz_w1
  try simp only [World.size_setCell] at hz_w1
  try simp only [World.size_drew] at hz_w1
  try simp only [World.size_drewN] at hz_w1
  try simp only [World.size_alloc] at hz_w1
  have hl0_w1 : w.heap.size < w1.heap.size := by omega
  have hl1_w1 : w.heap.size + 1 < w1.heap.size := by omega
  have hl2_w1 : w.heap.size + 2 < w1.heap.size := by omega
  have hl3_w1 : p < w1.heap.size := by omega
  have hl4_w1 : q < w1.heap.size := by omega
  have c0_w1 : w1.cell? ⟨w.heap.size, 0, none⟩ = some (.int .i64 an) := below_cell_of hb_w1 (by first | (go_simp; done) | (refine below_cell_of (w := w) ?_ (by first | assumption | (go_simp; done)); (repeat (first | assumption | exact Below.refl _ _ | refine below_set ?_ (by first | omega | (simp; done) | (simp; omega)) _ | refine below_drawn ?_ | refine below_drawnN ?_ _ | refine below_new ?_ _))))
  have c1_w1 : w1.cell? ⟨w.heap.size, 1, none⟩ = some (.int .i64 ad) := below_cell_of hb_w1 (by first | (go_simp; done) | (refine below_cell_of (w := w) ?_ (by first | assumption | (go_simp; done)); (repeat (first | assumption | exact Below.refl _ _ | refine below_set ?_ (by first | omega | (simp; done) | (simp; omega)) _ | refine below_drawn ?_ | refine below_drawnN ?_ _ | refine below_new ?_ _))))
  have c2_w1 : w1.cell? ⟨w.heap.size + 1, 0, none⟩ = some (.int .i64 bn) := below_cell_of hb_w1 (by first | (go_simp; done) | (refine below_cell_of (w := w) ?_ (by first | assumption | (go_simp; done)); (repeat (first | assumption | exact Below.refl _ _ | refine below_set ?_ (by first | omega | (simp; done) | (simp; omega)) _ | refine below_drawn ?_ | refine below_drawnN ?_ _ | refine below_new ?_ _))))
  have c3_w1 : w1.cell? ⟨w.heap.size + 1, 1, none⟩ = some (.int .i64 bd) := below_cell_of hb_w1 (by first | (go_simp; done) | (refine below_cell_of (w := w) ?_ (by first | assumption | (go_simp; done)); (repeat (first | assumption | exact Below.refl _ _ | refine below_set ?_ (by first | omega | (simp; done) | (simp; omega)) _ | refine below_drawn ?_ | refine below_drawnN ?_ _ | refine below_new ?_ _))))
  have d0_w1 : w1.cell? ⟨w.heap.size + 2, 0, none⟩ = some (.int .i64 0) := below_cell_of hb_w1 (by first | (go_simp; done) | (refine below_cell_of (w := w) ?_ (by first | assumption | (go_simp; done)); (repeat (first | assumption | exact Below.refl _ _ | refine below_set ?_ (by first | omega | (simp; done) | (simp; omega)) _ | refine below_drawn ?_ | refine below_drawnN ?_ _ | refine below_new ?_ _))))
  have fzd0_w1 : w1.frozen? ⟨w.heap.size + 2, 0, none⟩ = false := below_frozen_of hb_w1 (by first | omega | (simp; done) | (simp; omega)) (by first | (go_simp; done))
  have d1_w1 : w1.cell? ⟨w.heap.size + 2, 1, none⟩ = some (.int .i64 0) := below_cell_of hb_w1 (by first | (go_simp; done) | (refine below_cell_of (w := w) ?_ (by first | assumption | (go_simp; done)); (repeat (first | assumption | exact Below.refl _ _ | refine below_set ?_ (by first | omega | (simp; done) | (simp; omega)) _ | refine below_drawn ?_ | refine below_drawnN ?_ _ | refine below_new ?_ _))))
  have fzd1_w1 : w1.frozen? ⟨w.heap.size + 2, 1, none⟩ = false := below_frozen_of hb_w1 (by first | omega | (simp; done) | (simp; omega)) (by first | (go_simp; done))
  have p0_w1 : w1.cell? ⟨p, 0, none⟩ = some (.int .i64 an) := below_cell_of hb_w1 (by first | (go_simp; done) | (refine below_cell_of (w := w) ?_ (by first | assumption | (go_simp; done)); (repeat (first | assumption | exact Below.refl _ _ | refine below_set ?_ (by first | omega | (simp; done) | (simp; omega)) _ | refine below_drawn ?_ | refine below_drawnN ?_ _ | refine below_new ?_ _))))
  have p1_w1 : w1.cell? ⟨p, 1, none⟩ = some (.int .i64 ad) := below_cell_of hb_w1 (by first | (go_simp; done) | (refine below_cell_of (w := w) ?_ (by first | assumption | (go_simp; done)); (repeat (first | assumption | exact Below.refl _ _ | refine below_set ?_ (by first | omega | (simp; done) | (simp; omega)) _ | refine below_drawn ?_ | refine below_drawnN ?_ _ | refine below_new ?_ _))))
  have q0_w1 : w1.cell? ⟨q, 0, none⟩ = some (.int .i64 bn) := below_cell_of hb_w1 (by first | (go_simp; done) | (refine below_cell_of (w := w) ?_ (by first | assumption | (go_simp; done)); (repeat (first | assumption | exact Below.refl _ _ | refine below_set ?_ (by first | omega | (simp; done) | (simp; omega)) _ | refine below_drawn ?_ | refine below_drawnN ?_ _ | refine below_new ?_ _))))
  have q1_w1 : w1.cell? ⟨q, 1, none⟩ = some (.int .i64 bd) := below_cell_of hb_w1 (by first | (go_simp; done) | (refine below_cell_of (w := w) ?_ (by first | assumption | (go_simp; done)); (repeat (first | assumption | exact Below.refl _ _ | refine below_set ?_ (by first | omega | (simp; done) | (simp; omega)) _ | refine below_drawn ?_ | refine below_drawnN ?_ _ | refine below_new ?_ _))))
  go_wp2_with fail
  refine (valid_any bn bd _ kb).mono ?_
  rw [HB.out]
  rintro e w2 ⟨rfl, hb_w2⟩
  have hB_w2 : Below w.heap.size w w2 := below_on (by first | ((repeat (first | assumption | exact Below.refl _ _ | refine below_set ?_ (by first | omega | (simp; done) | (simp; omega)) _ | refine below_drawn ?_ | refine below_drawnN ?_ _ | refine below_new ?_ _)); done) | (refine below_on hB_w1 ?_; (repeat (first | assumption | exact Below.refl _ _ | refine below_set ?_ (by first | omega | (simp; done) | (simp; omega)) _ | refine below_drawn ?_ | refine below_drawnN ?_ _ | refine below_new ?_ _)))) hb_w2
  have hz_w2 := hb_w2.size
  try simp only [World.size_setCell] at hz_w2
  try simp only [World.size_drew] at hz_w2
  try simp only [World.size_drewN] at hz_w2
  try simp only [World.size_alloc] at hz_w2
  try simp only [World.size_setCell] at hz_w2
  try simp only [World.size_drew] at hz_w2
  try simp only [World.size_drewN] at hz_w2
  try simp only [World.size_alloc] at hz_w2
  have hl0_w2 : w.heap.size < w2.heap.size := by omega
  have hl1_w2 : w.heap.size + 1 < w2.heap.size := by omega
  have hl2_w2 : w.heap.size + 2 < w2.heap.size := by omega
  have hl3_w2 : p < w2.heap.size := by omega
  have hl4_w2 : q < w2.heap.size := by omega
  have c0_w2 : w2.cell? ⟨w.heap.size, 0, none⟩ = some (.int .i64 an) := below_cell_of hb_w2 (by first | (go_simp; done) | (refine below_cell_of (w := w1) ?_ (by first | assumption | (go_simp; done)); (repeat (first | assumption | exact Below.refl _ _ | refine below_set ?_ (by first | omega | (simp; done) | (simp; omega)) _ | refine below_drawn ?_ | refine below_drawnN ?_ _ | refine below_new ?_ _))))
  have c1_w2 : w2.cell? ⟨w.heap.size, 1, none⟩ = some (.int .i64 ad) := below_cell_of hb_w2 (by first | (go_simp; done) | (refine below_cell_of (w := w1) ?_ (by first | assumption | (go_simp; done)); (repeat (first | assumption | exact Below.refl _ _ | refine below_set ?_ (by first | omega | (simp; done) | (simp; omega)) _ | refine below_drawn ?_ | refine below_drawnN ?_ _ | refine below_new ?_ _))))
  have c2_w2 : w2.cell? ⟨w.heap.size + 1, 0, none⟩ = some (.int .i64 bn) := below_cell_of hb_w2 (by first | (go_simp; done) | (refine below_cell_of (w := w1) ?_ (by first | assumption | (go_simp; done)); (repeat (first | assumption | exact Below.refl _ _ | refine below_set ?_ (by first | omega | (simp; done) | (simp; omega)) _ | refine below_drawn ?_ | refine below_drawnN ?_ _ | refine below_new ?_ _))))
  have c3_w2 : w2.cell? ⟨w.heap.size + 1, 1, none⟩ = some (.int .i64 bd) := below_cell_of hb_w2 (by first | (go_simp; done) | (refine below_cell_of (w := w1) ?_ (by first | assumption | (go_simp; done)); (repeat (first | assumption | exact Below.refl _ _ | refine below_set ?_ (by first | omega | (simp; done) | (simp; omega)) _ | refine below_drawn ?_ | refine below_drawnN ?_ _ | refine below_new ?_ _))))
  have d0_w2 : w2.cell? ⟨w.heap.size + 2, 0, none⟩ = some (.int .i64 0) := below_cell_of hb_w2 (by first | (go_simp; done) | (refine below_cell_of (w := w1) ?_ (by first | assumption | (go_simp; done)); (repeat (first | assumption | exact Below.refl _ _ | refine below_set ?_ (by first | omega | (simp; done) | (simp; omega)) _ | refine below_drawn ?_ | refine below_drawnN ?_ _ | refine below_new ?_ _))))
  have fzd0_w2 : w2.frozen? ⟨w.heap.size + 2, 0, none⟩ = false := below_frozen_of hb_w2 (by first | omega | (simp; done) | (simp; omega)) (by first | (go_simp; done) | (refine below_frozen_of (w := w1) ?_ (by omega) (by first | assumption | (go_simp; done)); (repeat (first | assumption | exact Below.refl _ _ | refine below_set ?_ (by first | omega | (simp; done) | (simp; omega)) _ | refine below_drawn ?_ | refine below_drawnN ?_ _ | refine below_new ?_ _))))
  have d1_w2 : w2.cell? ⟨w.heap.size + 2, 1, none⟩ = some (.int .i64 0) := below_cell_of hb_w2 (by first | (go_simp; done) | (refine below_cell_of (w := w1) ?_ (by first | assumption | (go_simp; done)); (repeat (first | assumption | exact Below.refl _ _ | refine below_set ?_ (by first | omega | (simp; done) | (simp; omega)) _ | refine below_drawn ?_ | refine below_drawnN ?_ _ | refine below_new ?_ _))))
  have fzd1_w2 : w2.frozen? ⟨w.heap.size + 2, 1, none⟩ = false := below_frozen_of hb_w2 (by first | omega | (simp; done) | (simp; omega)) (by first | (go_simp; done) | (refine below_frozen_of (w := w1) ?_ (by omega) (by first | assumption | (go_simp; done)); (repeat (first | assumption | exact Below.refl _ _ | refine below_set ?_ (by first | omega | (simp; done) | (simp; omega)) _ | refine below_drawn ?_ | refine below_drawnN ?_ _ | refine below_new ?_ _))))
  have p0_w2 : w2.cell? ⟨p, 0, none⟩ = some (.int .i64 an) := below_cell_of hb_w2 (by first | (go_simp; done) | (refine below_cell_of (w := w1) ?_ (by first | assumption | (go_simp; done)); (repeat (first | assumption | exact Below.refl _ _ | refine below_set ?_ (by first | omega | (simp; done) | (simp; omega)) _ | refine below_drawn ?_ | refine below_drawnN ?_ _ | refine below_new ?_ _))))
  have p1_w2 : w2.cell? ⟨p, 1, none⟩ = some (.int .i64 ad) := below_cell_of hb_w2 (by first | (go_simp; done) | (refine below_cell_of (w := w1) ?_ (by first | assumption | (go_simp; done)); (repeat (first | assumption | exact Below.refl _ _ | refine below_set ?_ (by first | omega | (simp; done) | (simp; omega)) _ | refine below_drawn ?_ | refine below_drawnN ?_ _ | refine below_new ?_ _))))
  have q0_w2 : w2.cell? ⟨q, 0, none⟩ = some (.int .i64 bn) := below_cell_of hb_w2 (by first | (go_simp; done) | (refine below_cell_of (w := w1) ?_ (by first | assumption | (go_simp; done)); (repeat (first | assumption | exact Below.refl _ _ | refine below_set ?_ (by first | omega | (simp; done) | (simp; omega)) _ | refine below_drawn ?_ | refine below_drawnN ?_ _ | refine below_new ?_ _))))
  have q1_w2 : w2.cell? ⟨q, 1, none⟩ = some (.int .i64 bd) := below_cell_of hb_w2 (by first | (go_simp; done) | (refine below_cell_of (w := w1) ?_ (by first | assumption | (go_simp; done)); (repeat (first | assumption | exact Below.refl _ _ | refine below_set ?_ (by first | omega | (simp; done) | (simp; omega)) _ | refine below_drawn ?_ | refine below_drawnN ?_ _ | refine below_new ?_ _))))
  go_wp2_with fail
  refine (sub_clo p q an ad bn bd _ HA.out HB.out ⟨p0_w2, p1_w2, q0_w2, q1_w2⟩).mono ?_
  rw [EN.out, ED.out]
  rintro e w3 ⟨rfl, hb_w3⟩
  have hB_w3 : Below w.heap.size w w3 := below_on (by first | ((repeat (first | assumption | exact Below.refl _ _ | refine below_set ?_ (by first | omega | (simp; done) | (simp; omega)) _ | refine below_drawn ?_ | refine below_drawnN ?_ _ | refine below_new ?_ _)); done) | (refine below_on hB_w2 ?_; (repeat (first | assumption | exact Below.refl _ _ | refine below_set ?_ (by first | omega | (simp; done) | (simp; omega)) _ | refine below_drawn ?_ | refine below_drawnN ?_ _ | refine below_new ?_ _)))) hb_w3
  have hz_w3 := hb_w3.size
  try simp only [World.size_setCell] at hz_w3
  try simp only [World.size_drew] at hz_w3
  try simp only [World.size_drewN] at hz_w3
  try simp only [World.size_alloc] at hz_w3
  try simp only [World.size_setCell] at hz_w3
  try simp only [World.size_drew] at hz_w3
  try simp only [World.size_drewN] at hz_w3
  try simp only [World.size_alloc] at hz_w3
  have hl0_w3 : w.heap.size < w3.heap.size := by omega
  have hl1_w3 : w.heap.size + 1 < w3.heap.size := by omega
  have hl2_w3 : w.heap.size + 2 < w3.heap.size := by omega
  have hl3_w3 : p < w3.heap.size := by omega
  have hl4_w3 : q < w3.heap.size := by omega
  have c0_w3 : w3.cell? ⟨w.heap.size, 0, none⟩ = some (.int .i64 an) := below_cell_of hb_w3 (by first | (go_simp; done) | (refine below_cell_of (w := w2) ?_ (by first | assumption | (go_simp; done)); (repeat (first | assumption | exact Below.refl _ _ | refine below_set ?_ (by first | omega | (simp; done) | (simp; omega)) _ | refine below_drawn ?_ | refine below_drawnN ?_ _ | refine below_new ?_ _))))
  have c1_w3 : w3.cell? ⟨w.heap.size, 1, none⟩ = some (.int .i64 ad) := below_cell_of hb_w3 (by first | (go_simp; done) | (refine below_cell_of (w := w2) ?_ (by first | assumption | (go_simp; done)); (repeat (first | assumption | exact Below.refl _ _ | refine below_set ?_ (by first | omega | (simp; done) | (simp; omega)) _ | refine below_drawn ?_ | refine below_drawnN ?_ _ | refine below_new ?_ _))))
  have c2_w3 : w3.cell? ⟨w.heap.size + 1, 0, none⟩ = some (.int .i64 bn) := below_cell_of hb_w3 (by first | (go_simp; done) | (refine below_cell_of (w := w2) ?_ (by first | assumption | (go_simp; done)); (repeat (first | assumption | exact Below.refl _ _ | refine below_set ?_ (by first | omega | (simp; done) | (simp; omega)) _ | refine below_drawn ?_ | refine below_drawnN ?_ _ | refine below_new ?_ _))))
  have c3_w3 : w3.cell? ⟨w.heap.size + 1, 1, none⟩ = some (.int .i64 bd) := below_cell_of hb_w3 (by first | (go_simp; done) | (refine below_cell_of (w := w2) ?_ (by first | assumption | (go_simp; done)); (repeat (first | assumption | exact Below.refl _ _ | refine below_set ?_ (by first | omega | (simp; done) | (simp; omega)) _ | refine below_drawn ?_ | refine below_drawnN ?_ _ | refine below_new ?_ _))))
  have d0_w3 : w3.cell? ⟨w.heap.size + 2, 0, none⟩ = some (.int .i64 0) := below_cell_of hb_w3 (by first | (go_simp; done) | (refine below_cell_of (w := w2) ?_ (by first | assumption | (go_simp; done)); (repeat (first | assumption | exact Below.refl _ _ | refine below_set ?_ (by first | omega | (simp; done) | (simp; omega)) _ | refine below_drawn ?_ | refine below_drawnN ?_ _ | refine below_new ?_ _))))
  have fzd0_w3 : w3.frozen? ⟨w.heap.size + 2, 0, none⟩ = false := below_frozen_of hb_w3 (by first | omega | (simp; done) | (simp; omega)) (by first | (go_simp; done) | (refine below_frozen_of (w := w2) ?_ (by omega) (by first | assumption | (go_simp; done)); (repeat (first | assumption | exact Below.refl _ _ | refine below_set ?_ (by first | omega | (simp; done) | (simp; omega)) _ | refine below_drawn ?_ | refine below_drawnN ?_ _ | refine below_new ?_ _))))
  have d1_w3 : w3.cell? ⟨w.heap.size + 2, 1, none⟩ = some (.int .i64 0) := below_cell_of hb_w3 (by first | (go_simp; done) | (refine below_cell_of (w := w2) ?_ (by first | assumption | (go_simp; done)); (repeat (first | assumption | exact Below.refl _ _ | refine below_set ?_ (by first | omega | (simp; done) | (simp; omega)) _ | refine below_drawn ?_ | refine below_drawnN ?_ _ | refine below_new ?_ _))))
  have fzd1_w3 : w3.frozen? ⟨w.heap.size + 2, 1, none⟩ = false := below_frozen_of hb_w3 (by first | omega | (simp; done) | (simp; omega)) (by first | (go_simp; done) | (refine below_frozen_of (w := w2) ?_ (by omega) (by first | assumption | (go_simp; done)); (repeat (first | assumption | exact Below.refl _ _ | refine below_set ?_ (by first | omega | (simp; done) | (simp; omega)) _ | refine below_drawn ?_ | refine below_drawnN ?_ _ | refine below_new ?_ _))))
  have p0_w3 : w3.cell? ⟨p, 0, none⟩ = some (.int .i64 an) := below_cell_of hb_w3 (by first | (go_simp; done) | (refine below_cell_of (w := w2) ?_ (by first | assumption | (go_simp; done)); (repeat (first | assumption | exact Below.refl _ _ | refine below_set ?_ (by first | omega | (simp; done) | (simp; omega)) _ | refine below_drawn ?_ | refine below_drawnN ?_ _ | refine below_new ?_ _))))
  have p1_w3 : w3.cell? ⟨p, 1, none⟩ = some (.int .i64 ad) := below_cell_of hb_w3 (by first | (go_simp; done) | (refine below_cell_of (w := w2) ?_ (by first | assumption | (go_simp; done)); (repeat (first | assumption | exact Below.refl _ _ | refine below_set ?_ (by first | omega | (simp; done) | (simp; omega)) _ | refine below_drawn ?_ | refine below_drawnN ?_ _ | refine below_new ?_ _))))
  have q0_w3 : w3.cell? ⟨q, 0, none⟩ = some (.int .i64 bn) := below_cell_of hb_w3 (by first | (go_simp; done) | (refine below_cell_of (w := w2) ?_ (by first | assumption | (go_simp; done)); (repeat (first | assumption | exact Below.refl _ _ | refine below_set ?_ (by first | omega | (simp; done) | (simp; omega)) _ | refine below_drawn ?_ | refine below_drawnN ?_ _ | refine below_new ?_ _))))
  have q1_w3 : w3.cell? ⟨q, 1, none⟩ = some (.int .i64 bd) := below_cell_of hb_w3 (by first | (go_simp; done) | (refine below_cell_of (w := w2) ?_ (by first | assumption | (go_simp; done)); (repeat (first | assumption | exact Below.refl _ _ | refine below_set ?_ (by first | omega | (simp; done) | (simp; omega)) _ | refine below_drawn ?_ | refine below_drawnN ?_ _ | refine below_new ?_ _))))
  go_wp2_with fail
  refine (checked_any num den _ h0 h1 h2 h3 hd).mono ?_
  rw [HR.out]
  rintro e w4 ⟨rfl, hb_w4⟩
  have hB_w4 : Below w.heap.size w w4 := below_on (by first | ((repeat (first | assumption | exact Below.refl _ _ | refine below_set ?_ (by first | omega | (simp; done) | (simp; omega)) _ | refine below_drawn ?_ | refine below_drawnN ?_ _ | refine below_new ?_ _)); done) | (refine below_on hB_w3 ?_; (repeat (first | assumption | exact Below.refl _ _ | refine below_set ?_ (by first | omega | (simp; done) | (simp; omega)) _ | refine below_drawn ?_ | refine below_drawnN ?_ _ | refine below_new ?_ _)))) hb_w4
  have hz_w4 := hb_w4.size
  try simp only [World.size_setCell] at hz_w4
  try simp only [World.size_drew] at hz_w4
  try simp only [World.size_drewN] at hz_w4
  try simp only [World.size_alloc] at hz_w4
  try simp only [World.size_setCell] at hz_w4
  try simp only [World.size_drew] at hz_w4
  try simp only [World.size_drewN] at hz_w4
  try simp only [World.size_alloc] at hz_w4
  have hl0_w4 : w.heap.size < w4.heap.size := by omega
  have hl1_w4 : w.heap.size + 1 < w4.heap.size := by omega
  have hl2_w4 : w.heap.size + 2 < w4.heap.size := by omega
  have hl3_w4 : p < w4.heap.size := by omega
  have hl4_w4 : q < w4.heap.size := by omega
  have c0_w4 : w4.cell? ⟨w.heap.size, 0, none⟩ = some (.int .i64 an) := below_cell_of hb_w4 (by first | (go_simp; done) | (refine below_cell_of (w := w3) ?_ (by first | assumption | (go_simp; done)); (repeat (first | assumption | exact Below.refl _ _ | refine below_set ?_ (by first | omega | (simp; done) | (simp; omega)) _ | refine below_drawn ?_ | refine below_drawnN ?_ _ | refine below_new ?_ _))))
  have c1_w4 : w4.cell? ⟨w.heap.size, 1, none⟩ = some (.int .i64 ad) := below_cell_of hb_w4 (by first | (go_simp; done) | (refine below_cell_of (w := w3) ?_ (by first | assumption | (go_simp; done)); (repeat (first | assumption | exact Below.refl _ _ | refine below_set ?_ (by first | omega | (simp; done) | (simp; omega)) _ | refine below_drawn ?_ | refine below_drawnN ?_ _ | refine below_new ?_ _))))
  have c2_w4 : w4.cell? ⟨w.heap.size + 1, 0, none⟩ = some (.int .i64 bn) := below_cell_of hb_w4 (by first | (go_simp; done) | (refine below_cell_of (w := w3) ?_ (by first | assumption | (go_simp; done)); (repeat (first | assumption | exact Below.refl _ _ | refine below_set ?_ (by first | omega | (simp; done) | (simp; omega)) _ | refine below_drawn ?_ | refine below_drawnN ?_ _ | refine below_new ?_ _))))
  have c3_w4 : w4.cell? ⟨w.heap.size + 1, 1, none⟩ = some (.int .i64 bd) := below_cell_of hb_w4 (by first | (go_simp; done) | (refine below_cell_of (w := w3) ?_ (by first | assumption | (go_simp; done)); (repeat (first | assumption | exact Below.refl _ _ | refine below_set ?_ (by first | omega | (simp; done) | (simp; omega)) _ | refine below_drawn ?_ | refine below_drawnN ?_ _ | refine below_new ?_ _))))
  have d0_w4 : w4.cell? ⟨w.heap.size + 2, 0, none⟩ = some (.int .i64 0) := below_cell_of hb_w4 (by first | (go_simp; done) | (refine below_cell_of (w := w3) ?_ (by first | assumption | (go_simp; done)); (repeat (first | assumption | exact Below.refl _ _ | refine below_set ?_ (by first | omega | (simp; done) | (simp; omega)) _ | refine below_drawn ?_ | refine below_drawnN ?_ _ | refine below_new ?_ _))))
  have fzd0_w4 : w4.frozen? ⟨w.heap.size + 2, 0, none⟩ = false := below_frozen_of hb_w4 (by first | omega | (simp; done) | (simp; omega)) (by first | (go_simp; done) | (refine below_frozen_of (w := w3) ?_ (by omega) (by first | assumption | (go_simp; done)); (repeat (first | assumption | exact Below.refl _ _ | refine below_set ?_ (by first | omega | (simp; done) | (simp; omega)) _ | refine below_drawn ?_ | refine below_drawnN ?_ _ | refine below_new ?_ _))))
  have d1_w4 : w4.cell? ⟨w.heap.size + 2, 1, none⟩ = some (.int .i64 0) := below_cell_of hb_w4 (by first | (go_simp; done) | (refine below_cell_of (w := w3) ?_ (by first | assumption | (go_simp; done)); (repeat (first | assumption | exact Below.refl _ _ | refine below_set ?_ (by first | omega | (simp; done) | (simp; omega)) _ | refine below_drawn ?_ | refine below_drawnN ?_ _ | refine below_new ?_ _))))
  have fzd1_w4 : w4.frozen? ⟨w.heap.size + 2, 1, none⟩ = false := below_frozen_of hb_w4 (by first | omega | (simp; done) | (simp; omega)) (by first | (go_simp; done) | (refine below_frozen_of (w := w3) ?_ (by omega) (by first | assumption | (go_simp; done)); (repeat (first | assumption | exact Below.refl _ _ | refine below_set ?_ (by first | omega | (simp; done) | (simp; omega)) _ | refine below_drawn ?_ | refine below_drawnN ?_ _ | refine below_new ?_ _))))
  have p0_w4 : w4.cell? ⟨p, 0, none⟩ = some (.int .i64 an) := below_cell_of hb_w4 (by first | (go_simp; done) | (refine below_cell_of (w := w3) ?_ (by first | assumption | (go_simp; done)); (repeat (first | assumption | exact Below.refl _ _ | refine below_set ?_ (by first | omega | (simp; done) | (simp; omega)) _ | refine below_drawn ?_ | refine below_drawnN ?_ _ | refine below_new ?_ _))))
  have p1_w4 : w4.cell? ⟨p, 1, none⟩ = some (.int .i64 ad) := below_cell_of hb_w4 (by first | (go_simp; done) | (refine below_cell_of (w := w3) ?_ (by first | assumption | (go_simp; done)); (repeat (first | assumption | exact Below.refl _ _ | refine below_set ?_ (by first | omega | (simp; done) | (simp; omega)) _ | refine below_drawn ?_ | refine below_drawnN ?_ _ | refine below_new ?_ _))))
  have q0_w4 : w4.cell? ⟨q, 0, none⟩ = some (.int .i64 bn) := below_cell_of hb_w4 (by first | (go_simp; done) | (refine below_cell_of (w := w3) ?_ (by first | assumption | (go_simp; done)); (repeat (first | assumption | exact Below.refl _ _ | refine below_set ?_ (by first | omega | (simp; done) | (simp; omega)) _ | refine below_drawn ?_ | refine below_drawnN ?_ _ | refine below_new ?_ _))))
  have q1_w4 : w4.cell? ⟨q, 1, none⟩ = some (.int .i64 bd) := below_cell_of hb_w4 (by first | (go_simp; done) | (refine below_cell_of (w := w3) ?_ (by first | assumption | (go_simp; done)); (repeat (first | assumption | exact Below.refl _ _ | refine below_set ?_ (by first | omega | (simp; done) | (simp; omega)) _ | refine below_drawn ?_ | refine below_drawnN ?_ _ | refine below_new ?_ _))))
  go_wp2
  exact bodyPost_ret (v := .tuple #[.agg #[.int .i64 x, .int .i64 y], .int .i64 z]) (by simp [results, Try.results31, go_sem, d0_w4, d1_w4]) rfl ⟨rfl, by (repeat (first | assumption | exact Below.refl _ _ | refine below_set ?_ (by first | omega | (simp; done) | (simp; omega)) _ | refine below_drawn ?_ | refine below_drawnN ?_ _ | refine below_new ?_ _))⟩
theorem of_sub_any (p q : Nat) (an ad bn bd : Int) (w : World) (ka : an ≤ 9223372036854775807) (kb : bn ≤ 9223372036854775807) (hp : p < w.heap.size) (hq : q < w.heap.size) (hc : TwoR w p q an ad bn bd) : Calls Try.prog 31 #[.agg #[.int .i64 an, .int .i64 ad], .agg #[.int .i64 bn, .int .i64 bd], .func (.func 33) #[] #[.pointer (some ⟨p, 0, none⟩), .pointer (some ⟨q, 0, none⟩)]] w fun e w' => e = .returned (.tuple #[.agg #[.int .i64 (Rt.sub an ad bn bd).1, .int .i64 (Rt.sub an ad bn bd).2.1], .int .i64 (Rt.sub an ad bn bd).2.2]) ∧ Below w.heap.size w w' := by
  unfold Rt.sub Rt.op
  cases ha : Rt.valid an ad with
  | false => rw [if_neg (by simp)]; exact of_bad1 33 p q an ad bn bd w ka kb ha
  | true =>
    cases hb : Rt.valid bn bd with
    | false => rw [if_neg (by simp)]; exact of_bad2 33 p q an ad bn bd w ka kb ha hb
    | true =>
      rw [if_pos ⟨rfl, rfl⟩]
      obtain ⟨a0, a1, a2, a3⟩ := Rt.valid_bd ha
      obtain ⟨b0, b1, b2, b3⟩ := Rt.valid_bd hb
      obtain ⟨m0, n0⟩ := prod_in (a := ad) (b := bd) (by omega) (by omega) (by omega) (by omega)
      obtain ⟨m1, n1⟩ := prod_in (a := an) (b := bd) (by omega) (by omega) (by omega) (by omega)
      obtain ⟨m2, n2⟩ := prod_in (a := bn) (b := ad) (by omega) (by omega) (by omega) (by omega)
      by_cases hd : ad * bd = 0
      · have := Int.mul_pos (show 0 < ad by omega) (show 0 < bd by omega); omega
      · rw [if_neg hd]; exact of_sub p q an ad bn bd _ _ _ _ _ w ka kb ha hb hp hq hc rfl rfl (by omega) (by omega) (by omega) (by omega) hd rfl
set_option maxHeartbeats 1000000 in
theorem sub_good (an ad bn bd x y z : Int) (w : World) (ka : an ≤ 9223372036854775807) (kb : bn ≤ 9223372036854775807) (hr : Rt.sub an ad bn bd = (x, y, z)) : Calls Try.prog 15 #[.agg #[.int .i64 an, .int .i64 ad], .agg #[.int .i64 bn, .int .i64 bd]] w fun e w' => e = .returned (.tuple #[.agg #[.int .i64 x, .int .i64 y], .int .i64 z]) ∧ Below w.heap.size w w' := by
  have hmf : ∀ (fn : Fn) (first cap : Array Value) (w : World), (Instr.makeFunc fn first cap).run Try.prog w = .ok (.func fn first cap) w := fun _ _ _ _ => rfl
  have HR := Lib.hid hr
  clear hr
  go_enter Try.func15, Try.ntmps15
  go_wp2_with fail
  refine (of_sub_any w.heap.size (w.heap.size + 1) an ad bn bd _ ka kb (by simp; omega) (by simp) ⟨by go_simp, by go_simp, by go_simp, by go_simp⟩).mono ?_
  rw [HR.out]
  rintro e w1 ⟨rfl, hb_w1⟩
  have hB_w1 : Below w.heap.size w w1 := below_on (by (repeat (first | assumption | exact Below.refl _ _ | refine below_set ?_ (by first | omega | (simp; done) | (simp; omega)) _ | refine below_drawn ?_ | refine below_drawnN ?_ _ | refine below_new ?_ _))) hb_w1
  have hz_w1 := hb_w1.size
  try simp only [World.size_setCell] at hz_w1
  try simp only [World.size_drew] at hz_w1
  try simp only [World.size_drewN] at hz_w1
  try simp only [World.size_alloc] at hz_w1
  try simp only [World.size_setCell] at hz_w1
  try simp only [World.size_drew] at hz_w1
  try simp only [World.size_drewN] at hz_w1
  try simp only [World.size_alloc] at hz_w1
  have hl0_w1 : w.heap.size + 2 < w1.heap.size := by omega
  have d0_w1 : w1.cell? ⟨w.heap.size + 2, 0, none⟩ = some (.int .i64 0) := below_cell_of hb_w1 (by first | (go_simp; done) | (refine below_cell_of (w := w) ?_ (by first | assumption | (go_simp; done)); (repeat (first | assumption | exact Below.refl _ _ | refine below_set ?_ (by first | omega | (simp; done) | (simp; omega)) _ | refine below_drawn ?_ | refine below_drawnN ?_ _ | refine below_new ?_ _))))
  have fzd0_w1 : w1.frozen? ⟨w.heap.size + 2, 0, none⟩ = false := below_frozen_of hb_w1 (by first | omega | (simp; done) | (simp; omega)) (by first | (go_simp; done))
  have d1_w1 : w1.cell? ⟨w.heap.size + 2, 1, none⟩ = some (.int .i64 0) := below_cell_of hb_w1 (by first | (go_simp; done) | (refine below_cell_of (w := w) ?_ (by first | assumption | (go_simp; done)); (repeat (first | assumption | exact Below.refl _ _ | refine below_set ?_ (by first | omega | (simp; done) | (simp; omega)) _ | refine below_drawn ?_ | refine below_drawnN ?_ _ | refine below_new ?_ _))))
  have fzd1_w1 : w1.frozen? ⟨w.heap.size + 2, 1, none⟩ = false := below_frozen_of hb_w1 (by first | omega | (simp; done) | (simp; omega)) (by first | (go_simp; done))
  go_wp2
  exact bodyPost_ret (v := .tuple #[.agg #[.int .i64 x, .int .i64 y], .int .i64 z]) (by simp [results, Try.results15, go_sem, d0_w1, d1_w1]) rfl ⟨rfl, by (repeat (first | assumption | exact Below.refl _ _ | refine below_set ?_ (by first | omega | (simp; done) | (simp; omega)) _ | refine below_drawn ?_ | refine below_drawnN ?_ _ | refine below_new ?_ _))⟩
theorem sub_any (an ad bn bd : Int) (w : World) (ka : an ≤ 9223372036854775807) (kb : bn ≤ 9223372036854775807) : Calls Try.prog 15 #[.agg #[.int .i64 an, .int .i64 ad], .agg #[.int .i64 bn, .int .i64 bd]] w fun e w' => e = .returned (.tuple #[.agg #[.int .i64 (Rt.sub an ad bn bd).1, .int .i64 (Rt.sub an ad bn bd).2.1], .int .i64 (Rt.sub an ad bn bd).2.2]) ∧ Below w.heap.size w w' := sub_good an ad bn bd _ _ _ w ka kb rfl
set_option maxHeartbeats 1000000 in
set_option maxRecDepth 100000 in
theorem of_mul (p q : Nat) (an ad bn bd num den x y z : Int) (w : World) (ka : an ≤ 9223372036854775807) (kb : bn ≤ 9223372036854775807) (ha : Rt.valid an ad = true) (hb : Rt.valid bn bd = true) (hp : p < w.heap.size) (hq : q < w.heap.size) (hc : TwoR w p q an ad bn bd) (en : an * bn = num) (ed : ad * bd = den) (h0 : -9000000000000000000 ≤ num) (h1 : num ≤ 9000000000000000000) (h2 : -9000000000000000000 ≤ den) (h3 : den ≤ 9000000000000000000) (hd : den ≠ 0) (hr : Rt.red num den = (x, y, z)) : Calls Try.prog 31 #[.agg #[.int .i64 an, .int .i64 ad], .agg #[.int .i64 bn, .int .i64 bd], .func (.func 34) #[] #[.pointer (some ⟨p, 0, none⟩), .pointer (some ⟨q, 0, none⟩)]] w fun e w' => e = .returned (.tuple #[.agg #[.int .i64 x, .int .i64 y], .int .i64 z]) ∧ Below w.heap.size w w' := by
  obtain ⟨p0, p1, q0, q1⟩ := hc
  have HA := Lib.hid ha
  have HB := Lib.hid hb
  have EN := Lib.hid en
  have ED := Lib.hid ed
  clear ha hb en ed
  have HR := Lib.hid hr
  clear hr
  go_enter Try.func31, Try.ntmps31
  go_wp2_with fail
  refine (valid_any an ad _ ka).mono ?_
  rw [HA.out]
  rintro e w1 ⟨rfl, hb_w1⟩
  have hB_w1 : Below w.heap.size w w1 := below_on (by (repeat (first | assumption | exact Below.refl _ _ | refine below_set ?_ (by first | omega | (simp; done) | (simp; omega)) _ | refine below_drawn ?_ | refine below_drawnN ?_ _ | refine below_new ?_ _))) hb_w1
  have hz_w1 := hb_w1.size
  try simp only [World.size_setCell] at hz_w1
  try simp only [World.size_drew] at hz_w1
  try simp only [World.size_drewN] at hz_w1
  try simp only [World.size_alloc] at hz_w1
  try simp only [World.size_setCell] at hz_w1
  try simp only [World.size_drew] at hz_w1
  try simp only [World.size_drewN] at hz_w1
  try simp only [World.size_alloc] at hz_w1
  have hl0_w1 : w.heap.size < w1.heap.size := by omega
  have hl1_w1 : w.heap.size + 1 < w1.heap.size := by omega
  have hl2_w1 : w.heap.size + 2 < w1.heap.size := by omega
  have hl3_w1 : p < w1.heap.size := by omega
  have hl4_w1 : q < w1.heap.size := by omega
  have c0_w1 : w1.cell? ⟨w.heap.size, 0, none⟩ = some (.int .i64 an) := below_cell_of hb_w1 (by first | (go_simp; done) | (refine below_cell_of (w := w) ?_ (by first | assumption | (go_simp; done)); (repeat (first | assumption | exact Below.refl _ _ | refine below_set ?_ (by first | omega | (simp; done) | (simp; omega)) _ | refine below_drawn ?_ | refine below_drawnN ?_ _ | refine below_new ?_ _))))
  have c1_w1 : w1.cell? ⟨w.heap.size, 1, none⟩ = some (.int .i64 ad) := below_cell_of hb_w1 (by first | (go_simp; done) | (refine below_cell_of (w := w) ?_ (by first | assumption | (go_simp; done)); (repeat (first | assumption | exact Below.refl _ _ | refine below_set ?_ (by first | omega | (simp; done) | (simp; omega)) _ | refine below_drawn ?_ | refine below_drawnN ?_ _ | refine below_new ?_ _))))
  have c2_w1 : w1.cell? ⟨w.heap.size + 1, 0, none⟩ = some (.int .i64 bn) := below_cell_of hb_w1 (by first | (go_simp; done) | (refine below_cell_of (w := w) ?_ (by first | assumption | (go_simp; done)); (repeat (first | assumption | exact Below.refl _ _ | refine below_set ?_ (by first | omega | (simp; done) | (simp; omega)) _ | refine below_drawn ?_ | refine below_drawnN ?_ _ | refine below_new ?_ _))))
  have c3_w1 : w1.cell? ⟨w.heap.size + 1, 1, none⟩ = some (.int .i64 bd) := below_cell_of hb_w1 (by first | (go_simp; done) | (refine below_cell_of (w := w) ?_ (by first | assumption | (go_simp; done)); (repeat (first | assumption | exact Below.refl _ _ | refine below_set ?_ (by first | omega | (simp; done) | (simp; omega)) _ | refine below_drawn ?_ | refine below_drawnN ?_ _ | refine below_new ?_ _))))
  have d0_w1 : w1.cell? ⟨w.heap.size + 2, 0, none⟩ = some (.int .i64 0) := below_cell_of hb_w1 (by first | (go_simp; done) | (refine below_cell_of (w := w) ?_ (by first | assumption | (go_simp; done)); (repeat (first | assumption | exact Below.refl _ _ | refine below_set ?_ (by first | omega | (simp; done) | (simp; omega)) _ | refine below_drawn ?_ | refine below_drawnN ?_ _ | refine below_new ?_ _))))
  have fzd0_w1 : w1.frozen? ⟨w.heap.size + 2, 0, none⟩ = false := below_frozen_of hb_w1 (by first | omega | (simp; done) | (simp; omega)) (by first | (go_simp; done))
  have d1_w1 : w1.cell? ⟨w.heap.size + 2, 1, none⟩ = some (.int .i64 0) := below_cell_of hb_w1 (by first | (go_simp; done) | (refine below_cell_of (w := w) ?_ (by first | assumption | (go_simp; done)); (repeat (first | assumption | exact Below.refl _ _ | refine below_set ?_ (by first | omega | (simp; done) | (simp; omega)) _ | refine below_drawn ?_ | refine below_drawnN ?_ _ | refine below_new ?_ _))))
  have fzd1_w1 : w1.frozen? ⟨w.heap.size + 2, 1, none⟩ = false := below_frozen_of hb_w1 (by first | omega | (simp; done) | (simp; omega)) (by first | (go_simp; done))
  have p0_w1 : w1.cell? ⟨p, 0, none⟩ = some (.int .i64 an) := below_cell_of hb_w1 (by first | (go_simp; done) | (refine below_cell_of (w := w) ?_ (by first | assumption | (go_simp; done)); (repeat (first | assumption | exact Below.refl _ _ | refine below_set ?_ (by first | omega | (simp; done) | (simp; omega)) _ | refine below_drawn ?_ | refine below_drawnN ?_ _ | refine below_new ?_ _))))
  have p1_w1 : w1.cell? ⟨p, 1, none⟩ = some (.int .i64 ad) := below_cell_of hb_w1 (by first | (go_simp; done) | (refine below_cell_of (w := w) ?_ (by first | assumption | (go_simp; done)); (repeat (first | assumption | exact Below.refl _ _ | refine below_set ?_ (by first | omega | (simp; done) | (simp; omega)) _ | refine below_drawn ?_ | refine below_drawnN ?_ _ | refine below_new ?_ _))))
  have q0_w1 : w1.cell? ⟨q, 0, none⟩ = some (.int .i64 bn) := below_cell_of hb_w1 (by first | (go_simp; done) | (refine below_cell_of (w := w) ?_ (by first | assumption | (go_simp; done)); (repeat (first | assumption | exact Below.refl _ _ | refine below_set ?_ (by first | omega | (simp; done) | (simp; omega)) _ | refine below_drawn ?_ | refine below_drawnN ?_ _ | refine below_new ?_ _))))
  have q1_w1 : w1.cell? ⟨q, 1, none⟩ = some (.int .i64 bd) := below_cell_of hb_w1 (by first | (go_simp; done) | (refine below_cell_of (w := w) ?_ (by first | assumption | (go_simp; done)); (repeat (first | assumption | exact Below.refl _ _ | refine below_set ?_ (by first | omega | (simp; done) | (simp; omega)) _ | refine below_drawn ?_ | refine below_drawnN ?_ _ | refine below_new ?_ _))))
  go_wp2_with fail
  refine (valid_any bn bd _ kb).mono ?_
  rw [HB.out]
  rintro e w2 ⟨rfl, hb_w2⟩
  have hB_w2 : Below w.heap.size w w2 := below_on (by first | ((repeat (first | assumption | exact Below.refl _ _ | refine below_set ?_ (by first | omega | (simp; done) | (simp; omega)) _ | refine below_drawn ?_ | refine below_drawnN ?_ _ | refine below_new ?_ _)); done) | (refine below_on hB_w1 ?_; (repeat (first | assumption | exact Below.refl _ _ | refine below_set ?_ (by first | omega | (simp; done) | (simp; omega)) _ | refine below_drawn ?_ | refine below_drawnN ?_ _ | refine below_new ?_ _)))) hb_w2
  have hz_w2 := hb_w2.size
  try simp only [World.size_setCell] at hz_w2
  try simp only [World.size_drew] at hz_w2
  try simp only [World.size_drewN] at hz_w2
  try simp only [World.size_alloc] at hz_w2
  try simp only [World.size_setCell] at hz_w2
  try simp only [World.size_drew] at hz_w2
  try simp only [World.size_drewN] at hz_w2
  try simp only [World.size_alloc] at hz_w2
  have hl0_w2 : w.heap.size < w2.heap.size := by omega
  have hl1_w2 : w.heap.size + 1 < w2.heap.size := by omega
  have hl2_w2 : w.heap.size + 2 < w2.heap.size := by omega
  have hl3_w2 : p < w2.heap.size := by omega
  have hl4_w2 : q < w2.heap.size := by omega
  have c0_w2 : w2.cell? ⟨w.heap.size, 0, none⟩ = some (.int .i64 an) := below_cell_of hb_w2 (by first | (go_simp; done) | (refine below_cell_of (w := w1) ?_ (by first | assumption | (go_simp; done)); (repeat (first | assumption | exact Below.refl _ _ | refine below_set ?_ (by first | omega | (simp; done) | (simp; omega)) _ | refine below_drawn ?_ | refine below_drawnN ?_ _ | refine below_new ?_ _))))
  have c1_w2 : w2.cell? ⟨w.heap.size, 1, none⟩ = some (.int .i64 ad) := below_cell_of hb_w2 (by first | (go_simp; done) | (refine below_cell_of (w := w1) ?_ (by first | assumption | (go_simp; done)); (repeat (first | assumption | exact Below.refl _ _ | refine below_set ?_ (by first | omega | (simp; done) | (simp; omega)) _ | refine below_drawn ?_ | refine below_drawnN ?_ _ | refine below_new ?_ _))))
  have c2_w2 : w2.cell? ⟨w.heap.size + 1, 0, none⟩ = some (.int .i64 bn) := below_cell_of hb_w2 (by first | (go_simp; done) | (refine below_cell_of (w := w1) ?_ (by first | assumption | (go_simp; done)); (repeat (first | assumption | exact Below.refl _ _ | refine below_set ?_ (by first | omega | (simp; done) | (simp; omega)) _ | refine below_drawn ?_ | refine below_drawnN ?_ _ | refine below_new ?_ _))))
  have c3_w2 : w2.cell? ⟨w.heap.size + 1, 1, none⟩ = some (.int .i64 bd) := below_cell_of hb_w2 (by first | (go_simp; done) | (refine below_cell_of (w := w1) ?_ (by first | assumption | (go_simp; done)); (repeat (first | assumption | exact Below.refl _ _ | refine below_set ?_ (by first | omega | (simp; done) | (simp; omega)) _ | refine below_drawn ?_ | refine below_drawnN ?_ _ | refine below_new ?_ _))))
  have d0_w2 : w2.cell? ⟨w.heap.size + 2, 0, none⟩ = some (.int .i64 0) := below_cell_of hb_w2 (by first | (go_simp; done) | (refine below_cell_of (w := w1) ?_ (by first | assumption | (go_simp; done)); (repeat (first | assumption | exact Below.refl _ _ | refine below_set ?_ (by first | omega | (simp; done) | (simp; omega)) _ | refine below_drawn ?_ | refine below_drawnN ?_ _ | refine below_new ?_ _))))
  have fzd0_w2 : w2.frozen? ⟨w.heap.size + 2, 0, none⟩ = false := below_frozen_of hb_w2 (by first | omega | (simp; done) | (simp; omega)) (by first | (go_simp; done) | (refine below_frozen_of (w := w1) ?_ (by omega) (by first | assumption | (go_simp; done)); (repeat (first | assumption | exact Below.refl _ _ | refine below_set ?_ (by first | omega | (simp; done) | (simp; omega)) _ | refine below_drawn ?_ | refine below_drawnN ?_ _ | refine below_new ?_ _))))
  have d1_w2 : w2.cell? ⟨w.heap.size + 2, 1, none⟩ = some (.int .i64 0) := below_cell_of hb_w2 (by first | (go_simp; done) | (refine below_cell_of (w := w1) ?_ (by first | assumption | (go_simp; done)); (repeat (first | assumption | exact Below.refl _ _ | refine below_set ?_ (by first | omega | (simp; done) | (simp; omega)) _ | refine below_drawn ?_ | refine below_drawnN ?_ _ | refine below_new ?_ _))))
  have fzd1_w2 : w2.frozen? ⟨w.heap.size + 2, 1, none⟩ = false := below_frozen_of hb_w2 (by first | omega | (simp; done) | (simp; omega)) (by first | (go_simp; done) | (refine below_frozen_of (w := w1) ?_ (by omega) (by first | assumption | (go_simp; done)); (repeat (first | assumption | exact Below.refl _ _ | refine below_set ?_ (by first | omega | (simp; done) | (simp; omega)) _ | refine below_drawn ?_ | refine below_drawnN ?_ _ | refine below_new ?_ _))))
  have p0_w2 : w2.cell? ⟨p, 0, none⟩ = some (.int .i64 an) := below_cell_of hb_w2 (by first | (go_simp; done) | (refine below_cell_of (w := w1) ?_ (by first | assumption | (go_simp; done)); (repeat (first | assumption | exact Below.refl _ _ | refine below_set ?_ (by first | omega | (simp; done) | (simp; omega)) _ | refine below_drawn ?_ | refine below_drawnN ?_ _ | refine below_new ?_ _))))
  have p1_w2 : w2.cell? ⟨p, 1, none⟩ = some (.int .i64 ad) := below_cell_of hb_w2 (by first | (go_simp; done) | (refine below_cell_of (w := w1) ?_ (by first | assumption | (go_simp; done)); (repeat (first | assumption | exact Below.refl _ _ | refine below_set ?_ (by first | omega | (simp; done) | (simp; omega)) _ | refine below_drawn ?_ | refine below_drawnN ?_ _ | refine below_new ?_ _))))
  have q0_w2 : w2.cell? ⟨q, 0, none⟩ = some (.int .i64 bn) := below_cell_of hb_w2 (by first | (go_simp; done) | (refine below_cell_of (w := w1) ?_ (by first | assumption | (go_simp; done)); (repeat (first | assumption | exact Below.refl _ _ | refine below_set ?_ (by first | omega | (simp; done) | (simp; omega)) _ | refine below_drawn ?_ | refine below_drawnN ?_ _ | refine below_new ?_ _))))
  have q1_w2 : w2.cell? ⟨q, 1, none⟩ = some (.int .i64 bd) := below_cell_of hb_w2 (by first | (go_simp; done) | (refine below_cell_of (w := w1) ?_ (by first | assumption | (go_simp; done)); (repeat (first | assumption | exact Below.refl _ _ | refine below_set ?_ (by first | omega | (simp; done) | (simp; omega)) _ | refine below_drawn ?_ | refine below_drawnN ?_ _ | refine below_new ?_ _))))
  go_wp2_with fail
  refine (mul_clo p q an ad bn bd _ HA.out HB.out ⟨p0_w2, p1_w2, q0_w2, q1_w2⟩).mono ?_
  rw [EN.out, ED.out]
  rintro e w3 ⟨rfl, hb_w3⟩
  have hB_w3 : Below w.heap.size w w3 := below_on (by first | ((repeat (first | assumption | exact Below.refl _ _ | refine below_set ?_ (by first | omega | (simp; done) | (simp; omega)) _ | refine below_drawn ?_ | refine below_drawnN ?_ _ | refine below_new ?_ _)); done) | (refine below_on hB_w2 ?_; (repeat (first | assumption | exact Below.refl _ _ | refine below_set ?_ (by first | omega | (simp; done) | (simp; omega)) _ | refine below_drawn ?_ | refine below_drawnN ?_ _ | refine below_new ?_ _)))) hb_w3
  have hz_w3 := hb_w3.size
  try simp only [World.size_setCell] at hz_w3
  try simp only [World.size_drew] at hz_w3
  try simp only [World.size_drewN] at hz_w3
  try simp only [World.size_alloc] at hz_w3
  try simp only [World.size_setCell] at hz_w3
  try simp only [World.size_drew] at hz_w3
  try simp only [World.size_drewN] at hz_w3
  try simp only [World.size_alloc] at hz_w3
  have hl0_w3 : w.heap.size < w3.heap.size := by omega
  have hl1_w3 : w.heap.size + 1 < w3.heap.size := by omega
  have hl2_w3 : w.heap.size + 2 < w3.heap.size := by omega
  have hl3_w3 : p < w3.heap.size := by omega
  have hl4_w3 : q < w3.heap.size := by omega
  have c0_w3 : w3.cell? ⟨w.heap.size, 0, none⟩ = some (.int .i64 an) := below_cell_of hb_w3 (by first | (go_simp; done) | (refine below_cell_of (w := w2) ?_ (by first | assumption | (go_simp; done)); (repeat (first | assumption | exact Below.refl _ _ | refine below_set ?_ (by first | omega | (simp; done) | (simp; omega)) _ | refine below_drawn ?_ | refine below_drawnN ?_ _ | refine below_new ?_ _))))
  have c1_w3 : w3.cell? ⟨w.heap.size, 1, none⟩ = some (.int .i64 ad) := below_cell_of hb_w3 (by first | (go_simp; done) | (refine below_cell_of (w := w2) ?_ (by first | assumption | (go_simp; done)); (repeat (first | assumption | exact Below.refl _ _ | refine below_set ?_ (by first | omega | (simp; done) | (simp; omega)) _ | refine below_drawn ?_ | refine below_drawnN ?_ _ | refine below_new ?_ _))))
  have c2_w3 : w3.cell? ⟨w.heap.size + 1, 0, none⟩ = some (.int .i64 bn) := below_cell_of hb_w3 (by first | (go_simp; done) | (refine below_cell_of (w := w2) ?_ (by first | assumption | (go_simp; done)); (repeat (first | assumption | exact Below.refl _ _ | refine below_set ?_ (by first | omega | (simp; done) | (simp; omega)) _ | refine below_drawn ?_ | refine below_drawnN ?_ _ | refine below_new ?_ _))))
  have c3_w3 : w3.cell? ⟨w.heap.size + 1, 1, none⟩ = some (.int .i64 bd) := below_cell_of hb_w3 (by first | (go_simp; done) | (refine below_cell_of (w := w2) ?_ (by first | assumption | (go_simp; done)); (repeat (first | assumption | exact Below.refl _ _ | refine below_set ?_ (by first | omega | (simp; done) | (simp; omega)) _ | refine below_drawn ?_ | refine below_drawnN ?_ _ | refine below_new ?_ _))))
  have d0_w3 : w3.cell? ⟨w.heap.size + 2, 0, none⟩ = some (.int .i64 0) := below_cell_of hb_w3 (by first | (go_simp; done) | (refine below_cell_of (w := w2) ?_ (by first | assumption | (go_simp; done)); (repeat (first | assumption | exact Below.refl _ _ | refine below_set ?_ (by first | omega | (simp; done) | (simp; omega)) _ | refine below_drawn ?_ | refine below_drawnN ?_ _ | refine below_new ?_ _))))
  have fzd0_w3 : w3.frozen? ⟨w.heap.size + 2, 0, none⟩ = false := below_frozen_of hb_w3 (by first | omega | (simp; done) | (simp; omega)) (by first | (go_simp; done) | (refine below_frozen_of (w := w2) ?_ (by omega) (by first | assumption | (go_simp; done)); (repeat (first | assumption | exact Below.refl _ _ | refine below_set ?_ (by first | omega | (simp; done) | (simp; omega)) _ | refine below_drawn ?_ | refine below_drawnN ?_ _ | refine below_new ?_ _))))
  have d1_w3 : w3.cell? ⟨w.heap.size + 2, 1, none⟩ = some (.int .i64 0) := below_cell_of hb_w3 (by first | (go_simp; done) | (refine below_cell_of (w := w2) ?_ (by first | assumption | (go_simp; done)); (repeat (first | assumption | exact Below.refl _ _ | refine below_set ?_ (by first | omega | (simp; done) | (simp; omega)) _ | refine below_drawn ?_ | refine below_drawnN ?_ _ | refine below_new ?_ _))))
  have fzd1_w3 : w3.frozen? ⟨w.heap.size + 2, 1, none⟩ = false := below_frozen_of hb_w3 (by first | omega | (simp; done) | (simp; omega)) (by first | (go_simp; done) | (refine below_frozen_of (w := w2) ?_ (by omega) (by first | assumption | (go_simp; done)); (repeat (first | assumption | exact Below.refl _ _ | refine below_set ?_ (by first | omega | (simp; done) | (simp; omega)) _ | refine below_drawn ?_ | refine below_drawnN ?_ _ | refine below_new ?_ _))))
  have p0_w3 : w3.cell? ⟨p, 0, none⟩ = some (.int .i64 an) := below_cell_of hb_w3 (by first | (go_simp; done) | (refine below_cell_of (w := w2) ?_ (by first | assumption | (go_simp; done)); (repeat (first | assumption | exact Below.refl _ _ | refine below_set ?_ (by first | omega | (simp; done) | (simp; omega)) _ | refine below_drawn ?_ | refine below_drawnN ?_ _ | refine below_new ?_ _))))
  have p1_w3 : w3.cell? ⟨p, 1, none⟩ = some (.int .i64 ad) := below_cell_of hb_w3 (by first | (go_simp; done) | (refine below_cell_of (w := w2) ?_ (by first | assumption | (go_simp; done)); (repeat (first | assumption | exact Below.refl _ _ | refine below_set ?_ (by first | omega | (simp; done) | (simp; omega)) _ | refine below_drawn ?_ | refine below_drawnN ?_ _ | refine below_new ?_ _))))
  have q0_w3 : w3.cell? ⟨q, 0, none⟩ = some (.int .i64 bn) := below_cell_of hb_w3 (by first | (go_simp; done) | (refine below_cell_of (w := w2) ?_ (by first | assumption | (go_simp; done)); (repeat (first | assumption | exact Below.refl _ _ | refine below_set ?_ (by first | omega | (simp; done) | (simp; omega)) _ | refine below_drawn ?_ | refine below_drawnN ?_ _ | refine below_new ?_ _))))
  have q1_w3 : w3.cell? ⟨q, 1, none⟩ = some (.int .i64 bd) := below_cell_of hb_w3 (by first | (go_simp; done) | (refine below_cell_of (w := w2) ?_ (by first | assumption | (go_simp; done)); (repeat (first | assumption | exact Below.refl _ _ | refine below_set ?_ (by first | omega | (simp; done) | (simp; omega)) _ | refine below_drawn ?_ | refine below_drawnN ?_ _ | refine below_new ?_ _))))
  go_wp2_with fail
  refine (checked_any num den _ h0 h1 h2 h3 hd).mono ?_
  rw [HR.out]
  rintro e w4 ⟨rfl, hb_w4⟩
  have hB_w4 : Below w.heap.size w w4 := below_on (by first | ((repeat (first | assumption | exact Below.refl _ _ | refine below_set ?_ (by first | omega | (simp; done) | (simp; omega)) _ | refine below_drawn ?_ | refine below_drawnN ?_ _ | refine below_new ?_ _)); done) | (refine below_on hB_w3 ?_; (repeat (first | assumption | exact Below.refl _ _ | refine below_set ?_ (by first | omega | (simp; done) | (simp; omega)) _ | refine below_drawn ?_ | refine below_drawnN ?_ _ | refine below_new ?_ _)))) hb_w4
  have hz_w4 := hb_w4.size
  try simp only [World.size_setCell] at hz_w4
  try simp only [World.size_drew] at hz_w4
  try simp only [World.size_drewN] at hz_w4
  try simp only [World.size_alloc] at hz_w4
  try simp only [World.size_setCell] at hz_w4
  try simp only [World.size_drew] at hz_w4
  try simp only [World.size_drewN] at hz_w4
  try simp only [World.size_alloc] at hz_w4
  have hl0_w4 : w.heap.size < w4.heap.size := by omega
  have hl1_w4 : w.heap.size + 1 < w4.heap.size := by omega
  have hl2_w4 : w.heap.size + 2 < w4.heap.size := by omega
  have hl3_w4 : p < w4.heap.size := by omega
  have hl4_w4 : q < w4.heap.size := by omega
  have c0_w4 : w4.cell? ⟨w.heap.size, 0, none⟩ = some (.int .i64 an) := below_cell_of hb_w4 (by first | (go_simp; done) | (refine below_cell_of (w := w3) ?_ (by first | assumption | (go_simp; done)); (repeat (first | assumption | exact Below.refl _ _ | refine below_set ?_ (by first | omega | (simp; done) | (simp; omega)) _ | refine below_drawn ?_ | refine below_drawnN ?_ _ | refine below_new ?_ _))))
  have c1_w4 : w4.cell? ⟨w.heap.size, 1, none⟩ = some (.int .i64 ad) := below_cell_of hb_w4 (by first | (go_simp; done) | (refine below_cell_of (w := w3) ?_ (by first | assumption | (go_simp; done)); (repeat (first | assumption | exact Below.refl _ _ | refine below_set ?_ (by first | omega | (simp; done) | (simp; omega)) _ | refine below_drawn ?_ | refine below_drawnN ?_ _ | refine below_new ?_ _))))
  have c2_w4 : w4.cell? ⟨w.heap.size + 1, 0, none⟩ = some (.int .i64 bn) := below_cell_of hb_w4 (by first | (go_simp; done) | (refine below_cell_of (w := w3) ?_ (by first | assumption | (go_simp; done)); (repeat (first | assumption | exact Below.refl _ _ | refine below_set ?_ (by first | omega | (simp; done) | (simp; omega)) _ | refine below_drawn ?_ | refine below_drawnN ?_ _ | refine below_new ?_ _))))
  have c3_w4 : w4.cell? ⟨w.heap.size + 1, 1, none⟩ = some (.int .i64 bd) := below_cell_of hb_w4 (by first | (go_simp; done) | (refine below_cell_of (w := w3) ?_ (by first | assumption | (go_simp; done)); (repeat (first | assumption | exact Below.refl _ _ | refine below_set ?_ (by first | omega | (simp; done) | (simp; omega)) _ | refine below_drawn ?_ | refine below_drawnN ?_ _ | refine below_new ?_ _))))
  have d0_w4 : w4.cell? ⟨w.heap.size + 2, 0, none⟩ = some (.int .i64 0) := below_cell_of hb_w4 (by first | (go_simp; done) | (refine below_cell_of (w := w3) ?_ (by first | assumption | (go_simp; done)); (repeat (first | assumption | exact Below.refl _ _ | refine below_set ?_ (by first | omega | (simp; done) | (simp; omega)) _ | refine below_drawn ?_ | refine below_drawnN ?_ _ | refine below_new ?_ _))))
  have fzd0_w4 : w4.frozen? ⟨w.heap.size + 2, 0, none⟩ = false := below_frozen_of hb_w4 (by first | omega | (simp; done) | (simp; omega)) (by first | (go_simp; done) | (refine below_frozen_of (w := w3) ?_ (by omega) (by first | assumption | (go_simp; done)); (repeat (first | assumption | exact Below.refl _ _ | refine below_set ?_ (by first | omega | (simp; done) | (simp; omega)) _ | refine below_drawn ?_ | refine below_drawnN ?_ _ | refine below_new ?_ _))))
  have d1_w4 : w4.cell? ⟨w.heap.size + 2, 1, none⟩ = some (.int .i64 0) := below_cell_of hb_w4 (by first | (go_simp; done) | (refine below_cell_of (w := w3) ?_ (by first | assumption | (go_simp; done)); (repeat (first | assumption | exact Below.refl _ _ | refine below_set ?_ (by first | omega | (simp; done) | (simp; omega)) _ | refine below_drawn ?_ | refine below_drawnN ?_ _ | refine below_new ?_ _))))
  have fzd1_w4 : w4.frozen? ⟨w.heap.size + 2, 1, none⟩ = false := below_frozen_of hb_w4 (by first | omega | (simp; done) | (simp; omega)) (by first | (go_simp; done) | (refine below_frozen_of (w := w3) ?_ (by omega) (by first | assumption | (go_simp; done)); (repeat (first | assumption | exact Below.refl _ _ | refine below_set ?_ (by first | omega | (simp; done) | (simp; omega)) _ | refine below_drawn ?_ | refine below_drawnN ?_ _ | refine below_new ?_ _))))
  have p0_w4 : w4.cell? ⟨p, 0, none⟩ = some (.int .i64 an) := below_cell_of hb_w4 (by first | (go_simp; done) | (refine below_cell_of (w := w3) ?_ (by first | assumption | (go_simp; done)); (repeat (first | assumption | exact Below.refl _ _ | refine below_set ?_ (by first | omega | (simp; done) | (simp; omega)) _ | refine below_drawn ?_ | refine below_drawnN ?_ _ | refine below_new ?_ _))))
  have p1_w4 : w4.cell? ⟨p, 1, none⟩ = some (.int .i64 ad) := below_cell_of hb_w4 (by first | (go_simp; done) | (refine below_cell_of (w := w3) ?_ (by first | assumption | (go_simp; done)); (repeat (first | assumption | exact Below.refl _ _ | refine below_set ?_ (by first | omega | (simp; done) | (simp; omega)) _ | refine below_drawn ?_ | refine below_drawnN ?_ _ | refine below_new ?_ _))))
  have q0_w4 : w4.cell? ⟨q, 0, none⟩ = some (.int .i64 bn) := below_cell_of hb_w4 (by first | (go_simp; done) | (refine below_cell_of (w := w3) ?_ (by first | assumption | (go_simp; done)); (repeat (first | assumption | exact Below.refl _ _ | refine below_set ?_ (by first | omega | (simp; done) | (simp; omega)) _ | refine below_drawn ?_ | refine below_drawnN ?_ _ | refine below_new ?_ _))))
  have q1_w4 : w4.cell? ⟨q, 1, none⟩ = some (.int .i64 bd) := below_cell_of hb_w4 (by first | (go_simp; done) | (refine below_cell_of (w := w3) ?_ (by first | assumption | (go_simp; done)); (repeat (first | assumption | exact Below.refl _ _ | refine below_set ?_ (by first | omega | (simp; done) | (simp; omega)) _ | refine below_drawn ?_ | refine below_drawnN ?_ _ | refine below_new ?_ _))))
  go_wp2
  exact bodyPost_ret (v := .tuple #[.agg #[.int .i64 x, .int .i64 y], .int .i64 z]) (by simp [results, Try.results31, go_sem, d0_w4, d1_w4]) rfl ⟨rfl, by (repeat (first | assumption | exact Below.refl _ _ | refine below_set ?_ (by first | omega | (simp; done) | (simp; omega)) _ | refine below_drawn ?_ | refine below_drawnN ?_ _ | refine below_new ?_ _))⟩
theorem of_mul_any (p q : Nat) (an ad bn bd : Int) (w : World) (ka : an ≤ 9223372036854775807) (kb : bn ≤ 9223372036854775807) (hp : p < w.heap.size) (hq : q < w.heap.size) (hc : TwoR w p q an ad bn bd) : Calls Try.prog 31 #[.agg #[.int .i64 an, .int .i64 ad], .agg #[.int .i64 bn, .int .i64 bd], .func (.func 34) #[] #[.pointer (some ⟨p, 0, none⟩), .pointer (some ⟨q, 0, none⟩)]] w fun e w' => e = .returned (.tuple #[.agg #[.int .i64 (Rt.mul an ad bn bd).1, .int .i64 (Rt.mul an ad bn bd).2.1], .int .i64 (Rt.mul an ad bn bd).2.2]) ∧ Below w.heap.size w w' := by
  unfold Rt.mul Rt.op
  cases ha : Rt.valid an ad with
  | false => rw [if_neg (by simp)]; exact of_bad1 34 p q an ad bn bd w ka kb ha
  | true =>
    cases hb : Rt.valid bn bd with
    | false => rw [if_neg (by simp)]; exact of_bad2 34 p q an ad bn bd w ka kb ha hb
    | true =>
      rw [if_pos ⟨rfl, rfl⟩]
      obtain ⟨a0, a1, a2, a3⟩ := Rt.valid_bd ha
      obtain ⟨b0, b1, b2, b3⟩ := Rt.valid_bd hb
      obtain ⟨m0, n0⟩ := prod_in (a := ad) (b := bd) (by omega) (by omega) (by omega) (by omega)
      obtain ⟨m1, n1⟩ := prod_in (a := an) (b := bn) (by omega) (by omega) (by omega) (by omega)
      by_cases hd : ad * bd = 0
      · have := Int.mul_pos (show 0 < ad by omega) (show 0 < bd by omega); omega
      · rw [if_neg hd]; exact of_mul p q an ad bn bd _ _ _ _ _ w ka kb ha hb hp hq hc rfl rfl (by omega) (by omega) (by omega) (by omega) hd rfl
set_option maxHeartbeats 1000000 in
theorem mul_good (an ad bn bd x y z : Int) (w : World) (ka : an ≤ 9223372036854775807) (kb : bn ≤ 9223372036854775807) (hr : Rt.mul an ad bn bd = (x, y, z)) : Calls Try.prog 17 #[.agg #[.int .i64 an, .int .i64 ad], .agg #[.int .i64 bn, .int .i64 bd]] w fun e w' => e = .returned (.tuple #[.agg #[.int .i64 x, .int .i64 y], .int .i64 z]) ∧ Below w.heap.size w w' := by
  have hmf : ∀ (fn : Fn) (first cap : Array Value) (w : World), (Instr.makeFunc fn first cap).run Try.prog w = .ok (.func fn first cap) w := fun _ _ _ _ => rfl
  have HR := Lib.hid hr
  clear hr
  go_enter Try.func17, Try.ntmps17
  go_wp2_with fail
  refine (of_mul_any w.heap.size (w.heap.size + 1) an ad bn bd _ ka kb (by simp; omega) (by simp) ⟨by go_simp, by go_simp, by go_simp, by go_simp⟩).mono ?_
  rw [HR.out]
  rintro e w1 ⟨rfl, hb_w1⟩
  have hB_w1 : Below w.heap.size w w1 := below_on (by (repeat (first | assumption | exact Below.refl _ _ | refine below_set ?_ (by first | omega | (simp; done) | (simp; omega)) _ | refine below_drawn ?_ | refine below_drawnN ?_ _ | refine below_new ?_ _))) hb_w1
  have hz_w1 := hb_w1.size
  try simp only [World.size_setCell] at hz_w1
  try simp only [World.size_drew] at hz_w1
  try simp only [World.size_drewN] at hz_w1
  try simp only [World.size_alloc] at hz_w1
  try simp only [World.size_setCell] at hz_w1
  try simp only [World.size_drew] at hz_w1
  try simp only [World.size_drewN] at hz_w1
  try simp only [World.size_alloc] at hz_w1
  have hl0_w1 : w.heap.size + 2 < w1.heap.size := by omega
  have d0_w1 : w1.cell? ⟨w.heap.size + 2, 0, none⟩ = some (.int .i64 0) := below_cell_of hb_w1 (by first | (go_simp; done) | (refine below_cell_of (w := w) ?_ (by first | assumption | (go_simp; done)); (repeat (first | assumption | exact Below.refl _ _ | refine below_set ?_ (by first | omega | (simp; done) | (simp; omega)) _ | refine below_drawn ?_ | refine below_drawnN ?_ _ | refine below_new ?_ _))))
  have fzd0_w1 : w1.frozen? ⟨w.heap.size + 2, 0, none⟩ = false := below_frozen_of hb_w1 (by first | omega | (simp; done) | (simp; omega)) (by first | (go_simp; done))
  have d1_w1 : w1.cell? ⟨w.heap.size + 2, 1, none⟩ = some (.int .i64 0) := below_cell_of hb_w1 (by first | (go_simp; done) | (refine below_cell_of (w := w) ?_ (by first | assumption | (go_simp; done)); (repeat (first | assumption | exact Below.refl _ _ | refine below_set ?_ (by first | omega | (simp; done) | (simp; omega)) _ | refine below_drawn ?_ | refine below_drawnN ?_ _ | refine below_new ?_ _))))
  have fzd1_w1 : w1.frozen? ⟨w.heap.size + 2, 1, none⟩ = false := below_frozen_of hb_w1 (by first | omega | (simp; done) | (simp; omega)) (by first | (go_simp; done))
  go_wp2
  exact bodyPost_ret (v := .tuple #[.agg #[.int .i64 x, .int .i64 y], .int .i64 z]) (by simp [results, Try.results17, go_sem, d0_w1, d1_w1]) rfl ⟨rfl, by (repeat (first | assumption | exact Below.refl _ _ | refine below_set ?_ (by first | omega | (simp; done) | (simp; omega)) _ | refine below_drawn ?_ | refine below_drawnN ?_ _ | refine below_new ?_ _))⟩
theorem mul_any (an ad bn bd : Int) (w : World) (ka : an ≤ 9223372036854775807) (kb : bn ≤ 9223372036854775807) : Calls Try.prog 17 #[.agg #[.int .i64 an, .int .i64 ad], .agg #[.int .i64 bn, .int .i64 bd]] w fun e w' => e = .returned (.tuple #[.agg #[.int .i64 (Rt.mul an ad bn bd).1, .int .i64 (Rt.mul an ad bn bd).2.1], .int .i64 (Rt.mul an ad bn bd).2.2]) ∧ Below w.heap.size w w' := mul_good an ad bn bd _ _ _ w ka kb rfl
set_option maxHeartbeats 1000000 in
set_option maxRecDepth 100000 in
theorem of_null (p q : Nat) (an ad bn bd num den : Int) (w : World) (ka : an ≤ 9223372036854775807) (kb : bn ≤ 9223372036854775807) (ha : Rt.valid an ad = true) (hb : Rt.valid bn bd = true) (hp : p < w.heap.size) (hq : q < w.heap.size) (hc : TwoR w p q an ad bn bd) (en : an * bd = num) (ed : ad * bn = den) (hd : den = 0) : Calls Try.prog 31 #[.agg #[.int .i64 an, .int .i64 ad], .agg #[.int .i64 bn, .int .i64 bd], .func (.func 35) #[] #[.pointer (some ⟨p, 0, none⟩), .pointer (some ⟨q, 0, none⟩)]] w fun e w' => e = .returned (.tuple #[.agg #[.int .i64 0, .int .i64 0], .int .i64 14]) ∧ Below w.heap.size w w' := by
  obtain ⟨p0, p1, q0, q1⟩ := hc
  have HA := Lib.hid ha
  have HB := Lib.hid hb
  have EN := Lib.hid en
  have ED := Lib.hid ed
  clear ha hb en ed
  go_enter Try.func31, Try.ntmps31
  go_wp2_with fail
  refine (valid_any an ad _ ka).mono ?_
  rw [HA.out]
  rintro e w1 ⟨rfl, hb_w1⟩
  have hB_w1 : Below w.heap.size w w1 := below_on (by (repeat (first | assumption | exact Below.refl _ _ | refine below_set ?_ (by first | omega | (simp; done) | (simp; omega)) _ | refine below_drawn ?_ | refine below_drawnN ?_ _ | refine below_new ?_ _))) hb_w1
  have hz_w1 := hb_w1.size
  try simp only [World.size_setCell] at hz_w1
  try simp only [World.size_drew] at hz_w1
  try simp only [World.size_drewN] at hz_w1
  try simp only [World.size_alloc] at hz_w1
  try simp only [World.size_setCell] at hz_w1
  try simp only [World.size_drew] at hz_w1
  try simp only [World.size_drewN] at hz_w1
  try simp only [World.size_alloc] at hz_w1
  have hl0_w1 : w.heap.size < w1.heap.size := by omega
  have hl1_w1 : w.heap.size + 1 < w1.heap.size := by omega
  have hl2_w1 : w.heap.size + 2 < w1.heap.size := by omega
  have hl3_w1 : p < w1.heap.size := by omega
  have hl4_w1 : q < w1.heap.size := by omega
  have c0_w1 : w1.cell? ⟨w.heap.size, 0, none⟩ = some (.int .i64 an) := below_cell_of hb_w1 (by first | (go_simp; done) | (refine below_cell_of (w := w) ?_ (by first | assumption | (go_simp; done)); (repeat (first | assumption | exact Below.refl _ _ | refine below_set ?_ (by first | omega | (simp; done) | (simp; omega)) _ | refine below_drawn ?_ | refine below_drawnN ?_ _ | refine below_new ?_ _))))
  have c1_w1 : w1.cell? ⟨w.heap.size, 1, none⟩ = some (.int .i64 ad) := below_cell_of hb_w1 (by first | (go_simp; done) | (refine below_cell_of (w := w) ?_ (by first | assumption | (go_simp; done)); (repeat (first | assumption | exact Below.refl _ _ | refine below_set ?_ (by first | omega | (simp; done) | (simp; omega)) _ | refine below_drawn ?_ | refine below_drawnN ?_ _ | refine below_new ?_ _))))
  have c2_w1 : w1.cell? ⟨w.heap.size + 1, 0, none⟩ = some (.int .i64 bn) := below_cell_of hb_w1 (by first | (go_simp; done) | (refine below_cell_of (w := w) ?_ (by first | assumption | (go_simp; done)); (repeat (first | assumption | exact Below.refl _ _ | refine below_set ?_ (by first | omega | (simp; done) | (simp; omega)) _ | refine below_drawn ?_ | refine below_drawnN ?_ _ | refine below_new ?_ _))))
  have c3_w1 : w1.cell? ⟨w.heap.size + 1, 1, none⟩ = some (.int .i64 bd) := below_cell_of hb_w1 (by first | (go_simp; done) | (refine below_cell_of (w := w) ?_ (by first | assumption | (go_simp; done)); (repeat (first | assumption | exact Below.refl _ _ | refine below_set ?_ (by first | omega | (simp; done) | (simp; omega)) _ | refine below_drawn ?_ | refine below_drawnN ?_ _ | refine below_new ?_ _))))
  have d0_w1 : w1.cell? ⟨w.heap.size + 2, 0, none⟩ = some (.int .i64 0) := below_cell_of hb_w1 (by first | (go_simp; done) | (refine below_cell_of (w := w) ?_ (by first | assumption | (go_simp; done)); (repeat (first | assumption | exact Below.refl _ _ | refine below_set ?_ (by first | omega | (simp; done) | (simp; omega)) _ | refine below_drawn ?_ | refine below_drawnN ?_ _ | refine below_new ?_ _))))
  have fzd0_w1 : w1.frozen? ⟨w.heap.size + 2, 0, none⟩ = false := below_frozen_of hb_w1 (by first | omega | (simp; done) | (simp; omega)) (by first | (go_simp; done))
  have d1_w1 : w1.cell? ⟨w.heap.size + 2, 1, none⟩ = some (.int .i64 0) := below_cell_of hb_w1 (by first | (go_simp; done) | (refine below_cell_of (w := w) ?_ (by first | assumption | (go_simp; done)); (repeat (first | assumption | exact Below.refl _ _ | refine below_set ?_ (by first | omega | (simp; done) | (simp; omega)) _ | refine below_drawn ?_ | refine below_drawnN ?_ _ | refine below_new ?_ _))))
  have fzd1_w1 : w1.frozen? ⟨w.heap.size + 2, 1, none⟩ = false := below_frozen_of hb_w1 (by first | omega | (simp; done) | (simp; omega)) (by first | (go_simp; done))
  have p0_w1 : w1.cell? ⟨p, 0, none⟩ = some (.int .i64 an) := below_cell_of hb_w1 (by first | (go_simp; done) | (refine below_cell_of (w := w) ?_ (by first | assumption | (go_simp; done)); (repeat (first | assumption | exact Below.refl _ _ | refine below_set ?_ (by first | omega | (simp; done) | (simp; omega)) _ | refine below_drawn ?_ | refine below_drawnN ?_ _ | refine below_new ?_ _))))
  have p1_w1 : w1.cell? ⟨p, 1, none⟩ = some (.int .i64 ad) := below_cell_of hb_w1 (by first | (go_simp; done) | (refine below_cell_of (w := w) ?_ (by first | assumption | (go_simp; done)); (repeat (first | assumption | exact Below.refl _ _ | refine below_set ?_ (by first | omega | (simp; done) | (simp; omega)) _ | refine below_drawn ?_ | refine below_drawnN ?_ _ | refine below_new ?_ _))))
  have q0_w1 : w1.cell? ⟨q, 0, none⟩ = some (.int .i64 bn) := below_cell_of hb_w1 (by first | (go_simp; done) | (refine below_cell_of (w := w) ?_ (by first | assumption | (go_simp; done)); (repeat (first | assumption | exact Below.refl _ _ | refine below_set ?_ (by first | omega | (simp; done) | (simp; omega)) _ | refine below_drawn ?_ | refine below_drawnN ?_ _ | refine below_new ?_ _))))
  have q1_w1 : w1.cell? ⟨q, 1, none⟩ = some (.int .i64 bd) := below_cell_of hb_w1 (by first | (go_simp; done) | (refine below_cell_of (w := w) ?_ (by first | assumption | (go_simp; done)); (repeat (first | assumption | exact Below.refl _ _ | refine below_set ?_ (by first | omega | (simp; done) | (simp; omega)) _ | refine below_drawn ?_ | refine below_drawnN ?_ _ | refine below_new ?_ _))))
  go_wp2_with fail
  refine (valid_any bn bd _ kb).mono ?_
  rw [HB.out]
  rintro e w2 ⟨rfl, hb_w2⟩
  have hB_w2 : Below w.heap.size w w2 := below_on (by first | ((repeat (first | assumption | exact Below.refl _ _ | refine below_set ?_ (by first | omega | (simp; done) | (simp; omega)) _ | refine below_drawn ?_ | refine below_drawnN ?_ _ | refine below_new ?_ _)); done) | (refine below_on hB_w1 ?_; (repeat (first | assumption | exact Below.refl _ _ | refine below_set ?_ (by first | omega | (simp; done) | (simp; omega)) _ | refine below_drawn ?_ | refine below_drawnN ?_ _ | refine below_new ?_ _)))) hb_w2
  have hz_w2 := hb_w2.size
  try simp only [World.size_setCell] at hz_w2
  try simp only [World.size_drew] at hz_w2
  try simp only [World.size_drewN] at hz_w2
  try simp only [World.size_alloc] at hz_w2
  try simp only [World.size_setCell] at hz_w2
  try simp only [World.size_drew] at hz_w2
  try simp only [World.size_drewN] at hz_w2
  try simp only [World.size_alloc] at hz_w2
  have hl0_w2 : w.heap.size < w2.heap.size := by omega
  have hl1_w2 : w.heap.size + 1 < w2.heap.size := by omega
  have hl2_w2 : w.heap.size + 2 < w2.heap.size := by omega
  have hl3_w2 : p < w2.heap.size := by omega
  have hl4_w2 : q < w2.heap.size := by omega
  have c0_w2 : w2.cell? ⟨w.heap.size, 0, none⟩ = some (.int .i64 an) := below_cell_of hb_w2 (by first | (go_simp; done) | (refine below_cell_of (w := w1) ?_ (by first | assumption | (go_simp; done)); (repeat (first | assumption | exact Below.refl _ _ | refine below_set ?_ (by first | omega | (simp; done) | (simp; omega)) _ | refine below_drawn ?_ | refine below_drawnN ?_ _ | refine below_new ?_ _))))
  have c1_w2 : w2.cell? ⟨w.heap.size, 1, none⟩ = some (.int .i64 ad) := below_cell_of hb_w2 (by first | (go_simp; done) | (refine below_cell_of (w := w1) ?_ (by first | assumption | (go_simp; done)); (repeat (first | assumption | exact Below.refl _ _ | refine below_set ?_ (by first | omega | (simp; done) | (simp; omega)) _ | refine below_drawn ?_ | refine below_drawnN ?_ _ | refine below_new ?_ _))))
  have c2_w2 : w2.cell? ⟨w.heap.size + 1, 0, none⟩ = some (.int .i64 bn) := below_cell_of hb_w2 (by first | (go_simp; done) | (refine below_cell_of (w := w1) ?_ (by first | assumption | (go_simp; done)); (repeat (first | assumption | exact Below.refl _ _ | refine below_set ?_ (by first | omega | (simp; done) | (simp; omega)) _ | refine below_drawn ?_ | refine below_drawnN ?_ _ | refine below_new ?_ _))))
  have c3_w2 : w2.cell? ⟨w.heap.size + 1, 1, none⟩ = some (.int .i64 bd) := below_cell_of hb_w2 (by first | (go_simp; done) | (refine below_cell_of (w := w1) ?_ (by first | assumption | (go_simp; done)); (repeat (first | assumption | exact Below.refl _ _ | refine below_set ?_ (by first | omega | (simp; done) | (simp; omega)) _ | refine below_drawn ?_ | refine below_drawnN ?_ _ | refine below_new ?_ _))))
  have d0_w2 : w2.cell? ⟨w.heap.size + 2, 0, none⟩ = some (.int .i64 0) := below_cell_of hb_w2 (by first | (go_simp; done) | (refine below_cell_of (w := w1) ?_ (by first | assumption | (go_simp; done)); (repeat (first | assumption | exact Below.refl _ _ | refine below_set ?_ (by first | omega | (simp; done) | (simp; omega)) _ | refine below_drawn ?_ | refine below_drawnN ?_ _ | refine below_new ?_ _))))
  have fzd0_w2 : w2.frozen? ⟨w.heap.size + 2, 0, none⟩ = false := below_frozen_of hb_w2 (by first | omega | (simp; done) | (simp; omega)) (by first | (go_simp; done) | (refine below_frozen_of (w := w1) ?_ (by omega) (by first | assumption | (go_simp; done)); (repeat (first | assumption | exact Below.refl _ _ | refine below_set ?_ (by first | omega | (simp; done) | (simp; omega)) _ | refine below_drawn ?_ | refine below_drawnN ?_ _ | refine below_new ?_ _))))
  have d1_w2 : w2.cell? ⟨w.heap.size + 2, 1, none⟩ = some (.int .i64 0) := below_cell_of hb_w2 (by first | (go_simp; done) | (refine below_cell_of (w := w1) ?_ (by first | assumption | (go_simp; done)); (repeat (first | assumption | exact Below.refl _ _ | refine below_set ?_ (by first | omega | (simp; done) | (simp; omega)) _ | refine below_drawn ?_ | refine below_drawnN ?_ _ | refine below_new ?_ _))))
  have fzd1_w2 : w2.frozen? ⟨w.heap.size + 2, 1, none⟩ = false := below_frozen_of hb_w2 (by first | omega | (simp; done) | (simp; omega)) (by first | (go_simp; done) | (refine below_frozen_of (w := w1) ?_ (by omega) (by first | assumption | (go_simp; done)); (repeat (first | assumption | exact Below.refl _ _ | refine below_set ?_ (by first | omega | (simp; done) | (simp; omega)) _ | refine below_drawn ?_ | refine below_drawnN ?_ _ | refine below_new ?_ _))))
  have p0_w2 : w2.cell? ⟨p, 0, none⟩ = some (.int .i64 an) := below_cell_of hb_w2 (by first | (go_simp; done) | (refine below_cell_of (w := w1) ?_ (by first | assumption | (go_simp; done)); (repeat (first | assumption | exact Below.refl _ _ | refine below_set ?_ (by first | omega | (simp; done) | (simp; omega)) _ | refine below_drawn ?_ | refine below_drawnN ?_ _ | refine below_new ?_ _))))
  have p1_w2 : w2.cell? ⟨p, 1, none⟩ = some (.int .i64 ad) := below_cell_of hb_w2 (by first | (go_simp; done) | (refine below_cell_of (w := w1) ?_ (by first | assumption | (go_simp; done)); (repeat (first | assumption | exact Below.refl _ _ | refine below_set ?_ (by first | omega | (simp; done) | (simp; omega)) _ | refine below_drawn ?_ | refine below_drawnN ?_ _ | refine below_new ?_ _))))
  have q0_w2 : w2.cell? ⟨q, 0, none⟩ = some (.int .i64 bn) := below_cell_of hb_w2 (by first | (go_simp; done) | (refine below_cell_of (w := w1) ?_ (by first | assumption | (go_simp; done)); (repeat (first | assumption | exact Below.refl _ _ | refine below_set ?_ (by first | omega | (simp; done) | (simp; omega)) _ | refine below_drawn ?_ | refine below_drawnN ?_ _ | refine below_new ?_ _))))
  have q1_w2 : w2.cell? ⟨q, 1, none⟩ = some (.int .i64 bd) := below_cell_of hb_w2 (by first | (go_simp; done) | (refine below_cell_of (w := w1) ?_ (by first | assumption | (go_simp; done)); (repeat (first | assumption | exact Below.refl _ _ | refine below_set ?_ (by first | omega | (simp; done) | (simp; omega)) _ | refine below_drawn ?_ | refine below_drawnN ?_ _ | refine below_new ?_ _))))
  go_wp2_with fail
  refine (div_clo p q an ad bn bd _ HA.out HB.out ⟨p0_w2, p1_w2, q0_w2, q1_w2⟩).mono ?_
  rw [EN.out, ED.out]
  rintro e w3 ⟨rfl, hb_w3⟩
  have hB_w3 : Below w.heap.size w w3 := below_on (by first | ((repeat (first | assumption | exact Below.refl _ _ | refine below_set ?_ (by first | omega | (simp; done) | (simp; omega)) _ | refine below_drawn ?_ | refine below_drawnN ?_ _ | refine below_new ?_ _)); done) | (refine below_on hB_w2 ?_; (repeat (first | assumption | exact Below.refl _ _ | refine below_set ?_ (by first | omega | (simp; done) | (simp; omega)) _ | refine below_drawn ?_ | refine below_drawnN ?_ _ | refine below_new ?_ _)))) hb_w3
  have hz_w3 := hb_w3.size
  try simp only [World.size_setCell] at hz_w3
  try simp only [World.size_drew] at hz_w3
  try simp only [World.size_drewN] at hz_w3
  try simp only [World.size_alloc] at hz_w3
  try simp only [World.size_setCell] at hz_w3
  try simp only [World.size_drew] at hz_w3
  try simp only [World.size_drewN] at hz_w3
  try simp only [World.size_alloc] at hz_w3
  have hl0_w3 : w.heap.size < w3.heap.size := by omega
  have hl1_w3 : w.heap.size + 1 < w3.heap.size := by omega
  have hl2_w3 : w.heap.size + 2 < w3.heap.size := by omega
  have hl3_w3 : p < w3.heap.size := by omega
  have hl4_w3 : q < w3.heap.size := by omega
  have c0_w3 : w3.cell? ⟨w.heap.size, 0, none⟩ = some (.int .i64 an) := below_cell_of hb_w3 (by first | (go_simp; done) | (refine below_cell_of (w := w2) ?_ (by first | assumption | (go_simp; done)); (repeat (first | assumption | exact Below.refl _ _ | refine below_set ?_ (by first | omega | (simp; done) | (simp; omega)) _ | refine below_drawn ?_ | refine below_drawnN ?_ _ | refine below_new ?_ _))))
  have c1_w3 : w3.cell? ⟨w.heap.size, 1, none⟩ = some (.int .i64 ad) := below_cell_of hb_w3 (by first | (go_simp; done) | (refine below_cell_of (w := w2) ?_ (by first | assumption | (go_simp; done)); (repeat (first | assumption | exact Below.refl _ _ | refine below_set ?_ (by first | omega | (simp; done) | (simp; omega)) _ | refine below_drawn ?_ | refine below_drawnN ?_ _ | refine below_new ?_ _))))
  have c2_w3 : w3.cell? ⟨w.heap.size + 1, 0, none⟩ = some (.int .i64 bn) := below_cell_of hb_w3 (by first | (go_simp; done) | (refine below_cell_of (w := w2) ?_ (by first | assumption | (go_simp; done)); (repeat (first | assumption | exact Below.refl _ _ | refine below_set ?_ (by first | omega | (simp; done) | (simp; omega)) _ | refine below_drawn ?_ | refine below_drawnN ?_ _ | refine below_new ?_ _))))
  have c3_w3 : w3.cell? ⟨w.heap.size + 1, 1, none⟩ = some (.int .i64 bd) := below_cell_of hb_w3 (by first | (go_simp; done) | (refine below_cell_of (w := w2) ?_ (by first | assumption | (go_simp; done)); (repeat (first | assumption | exact Below.refl _ _ | refine below_set ?_ (by first | omega | (simp; done) | (simp; omega)) _ | refine below_drawn ?_ | refine below_drawnN ?_ _ | refine below_new ?_ _))))
  have d0_w3 : w3.cell? ⟨w.heap.size + 2, 0, none⟩ = some (.int .i64 0) := below_cell_of hb_w3 (by first | (go_simp; done) | (refine below_cell_of (w := w2) ?_ (by first | assumption | (go_simp; done)); (repeat (first | assumption | exact Below.refl _ _ | refine below_set ?_ (by first | omega | (simp; done) | (simp; omega)) _ | refine below_drawn ?_ | refine below_drawnN ?_ _ | refine below_new ?_ _))))
  have fzd0_w3 : w3.frozen? ⟨w.heap.size + 2, 0, none⟩ = false := below_frozen_of hb_w3 (by first | omega | (simp; done) | (simp; omega)) (by first | (go_simp; done) | (refine below_frozen_of (w := w2) ?_ (by omega) (by first | assumption | (go_simp; done)); (repeat (first | assumption | exact Below.refl _ _ | refine below_set ?_ (by first | omega | (simp; done) | (simp; omega)) _ | refine below_drawn ?_ | refine below_drawnN ?_ _ | refine below_new ?_ _))))
  have d1_w3 : w3.cell? ⟨w.heap.size + 2, 1, none⟩ = some (.int .i64 0) := below_cell_of hb_w3 (by first | (go_simp; done) | (refine below_cell_of (w := w2) ?_ (by first | assumption | (go_simp; done)); (repeat (first | assumption | exact Below.refl _ _ | refine below_set ?_ (by first | omega | (simp; done) | (simp; omega)) _ | refine below_drawn ?_ | refine below_drawnN ?_ _ | refine below_new ?_ _))))
  have fzd1_w3 : w3.frozen? ⟨w.heap.size + 2, 1, none⟩ = false := below_frozen_of hb_w3 (by first | omega | (simp; done) | (simp; omega)) (by first | (go_simp; done) | (refine below_frozen_of (w := w2) ?_ (by omega) (by first | assumption | (go_simp; done)); (repeat (first | assumption | exact Below.refl _ _ | refine below_set ?_ (by first | omega | (simp; done) | (simp; omega)) _ | refine below_drawn ?_ | refine below_drawnN ?_ _ | refine below_new ?_ _))))
  have p0_w3 : w3.cell? ⟨p, 0, none⟩ = some (.int .i64 an) := below_cell_of hb_w3 (by first | (go_simp; done) | (refine below_cell_of (w := w2) ?_ (by first | assumption | (go_simp; done)); (repeat (first | assumption | exact Below.refl _ _ | refine below_set ?_ (by first | omega | (simp; done) | (simp; omega)) _ | refine below_drawn ?_ | refine below_drawnN ?_ _ | refine below_new ?_ _))))
  have p1_w3 : w3.cell? ⟨p, 1, none⟩ = some (.int .i64 ad) := below_cell_of hb_w3 (by first | (go_simp; done) | (refine below_cell_of (w := w2) ?_ (by first | assumption | (go_simp; done)); (repeat (first | assumption | exact Below.refl _ _ | refine below_set ?_ (by first | omega | (simp; done) | (simp; omega)) _ | refine below_drawn ?_ | refine below_drawnN ?_ _ | refine below_new ?_ _))))
  have q0_w3 : w3.cell? ⟨q, 0, none⟩ = some (.int .i64 bn) := below_cell_of hb_w3 (by first | (go_simp; done) | (refine below_cell_of (w := w2) ?_ (by first | assumption | (go_simp; done)); (repeat (first | assumption | exact Below.refl _ _ | refine below_set ?_ (by first | omega | (simp; done) | (simp; omega)) _ | refine below_drawn ?_ | refine below_drawnN ?_ _ | refine below_new ?_ _))))
  have q1_w3 : w3.cell? ⟨q, 1, none⟩ = some (.int .i64 bd) := below_cell_of hb_w3 (by first | (go_simp; done) | (refine below_cell_of (w := w2) ?_ (by first | assumption | (go_simp; done)); (repeat (first | assumption | exact Below.refl _ _ | refine below_set ?_ (by first | omega | (simp; done) | (simp; omega)) _ | refine below_drawn ?_ | refine below_drawnN ?_ _ | refine below_new ?_ _))))
  go_wp2
  exact bodyPost_ret (v := .tuple #[.agg #[.int .i64 0, .int .i64 0], .int .i64 14]) (by simp [results, Try.results31, go_sem, d0_w3, d1_w3]) rfl ⟨rfl, by (repeat (first | assumption | exact Below.refl _ _ | refine below_set ?_ (by first | omega | (simp; done) | (simp; omega)) _ | refine below_drawn ?_ | refine below_drawnN ?_ _ | refine below_new ?_ _))⟩
set_option maxHeartbeats 1000000 in
set_option maxRecDepth 100000 in
theorem of_div (p q : Nat) (an ad bn bd num den x y z : Int) (w : World) (ka : an ≤ 9223372036854775807) (kb : bn ≤ 9223372036854775807) (ha : Rt.valid an ad = true) (hb : Rt.valid bn bd = true) (hp : p < w.heap.size) (hq : q < w.heap.size) (hc : TwoR w p q an ad bn bd) (en : an * bd = num) (ed : ad * bn = den) (h0 : -9000000000000000000 ≤ num) (h1 : num ≤ 9000000000000000000) (h2 : -9000000000000000000 ≤ den) (h3 : den ≤ 9000000000000000000) (hd : den ≠ 0) (hr : Rt.red num den = (x, y, z)) : Calls Try.prog 31 #[.agg #[.int .i64 an, .int .i64 ad], .agg #[.int .i64 bn, .int .i64 bd], .func (.func 35) #[] #[.pointer (some ⟨p, 0, none⟩), .pointer (some ⟨q, 0, none⟩)]] w fun e w' => e = .returned (.tuple #[.agg #[.int .i64 x, .int .i64 y], .int .i64 z]) ∧ Below w.heap.size w w' := by
  obtain ⟨p0, p1, q0, q1⟩ := hc
  have HA := Lib.hid ha
  have HB := Lib.hid hb
  have EN := Lib.hid en
  have ED := Lib.hid ed
  clear ha hb en ed
  have HR := Lib.hid hr
  clear hr
  go_enter Try.func31, Try.ntmps31
  go_wp2_with fail
  refine (valid_any an ad _ ka).mono ?_
  rw [HA.out]
  rintro e w1 ⟨rfl, hb_w1⟩
  have hB_w1 : Below w.heap.size w w1 := below_on (by (repeat (first | assumption | exact Below.refl _ _ | refine below_set ?_ (by first | omega | (simp; done) | (simp; omega)) _ | refine below_drawn ?_ | refine below_drawnN ?_ _ | refine below_new ?_ _))) hb_w1
  have hz_w1 := hb_w1.size
  try simp only [World.size_setCell] at hz_w1
  try simp only [World.size_drew] at hz_w1
  try simp only [World.size_drewN] at hz_w1
  try simp only [World.size_alloc] at hz_w1
  try simp only [World.size_setCell] at hz_w1
  try simp only [World.size_drew] at hz_w1
  try simp only [World.size_drewN] at hz_w1
  try simp only [World.size_alloc] at hz_w1
  have hl0_w1 : w.heap.size < w1.heap.size := by omega
  have hl1_w1 : w.heap.size + 1 < w1.heap.size := by omega
  have hl2_w1 : w.heap.size + 2 < w1.heap.size := by omega
  have hl3_w1 : p < w1.heap.size := by omega
  have hl4_w1 : q < w1.heap.size := by omega
  have c0_w1 : w1.cell? ⟨w.heap.size, 0, none⟩ = some (.int .i64 an) := below_cell_of hb_w1 (by first | (go_simp; done) | (refine below_cell_of (w := w) ?_ (by first | assumption | (go_simp; done)); (repeat (first | assumption | exact Below.refl _ _ | refine below_set ?_ (by first | omega | (simp; done) | (simp; omega)) _ | refine below_drawn ?_ | refine below_drawnN ?_ _ | refine below_new ?_ _))))
  have c1_w1 : w1.cell? ⟨w.heap.size, 1, none⟩ = some (.int .i64 ad) := below_cell_of hb_w1 (by first | (go_simp; done) | (refine below_cell_of (w := w) ?_ (by first | assumption | (go_simp; done)); (repeat (first | assumption | exact Below.refl _ _ | refine below_set ?_ (by first | omega | (simp; done) | (simp; omega)) _ | refine below_drawn ?_ | refine below_drawnN ?_ _ | refine below_new ?_ _))))
  have c2_w1 : w1.cell? ⟨w.heap.size + 1, 0, none⟩ = some (.int .i64 bn) := below_cell_of hb_w1 (by first | (go_simp; done) | (refine below_cell_of (w := w) ?_ (by first | assumption | (go_simp; done)); (repeat (first | assumption | exact Below.refl _ _ | refine below_set ?_ (by first | omega | (simp; done) | (simp; omega)) _ | refine below_drawn ?_ | refine below_drawnN ?_ _ | refine below_new ?_ _))))
  have c3_w1 : w1.cell? ⟨w.heap.size + 1, 1, none⟩ = some (.int .i64 bd) := below_cell_of hb_w1 (by first | (go_simp; done) | (refine below_cell_of (w := w) ?_ (by first | assumption | (go_simp; done)); (repeat (first | assumption | exact Below.refl _ _ | refine below_set ?_ (by first | omega | (simp; done) | (simp; omega)) _ | refine below_drawn ?_ | refine below_drawnN ?_ _ | refine below_new ?_ _))))
  have d0_w1 : w1.cell? ⟨w.heap.size + 2, 0, none⟩ = some (.int .i64 0) := below_cell_of hb_w1 (by first | (go_simp; done) | (refine below_cell_of (w := w) ?_ (by first | assumption | (go_simp; done)); (repeat (first | assumption | exact Below.refl _ _ | refine below_set ?_ (by first | omega | (simp; done) | (simp; omega)) _ | refine below_drawn ?_ | refine below_drawnN ?_ _ | refine below_new ?_ _))))
  have fzd0_w1 : w1.frozen? ⟨w.heap.size + 2, 0, none⟩ = false := below_frozen_of hb_w1 (by first | omega | (simp; done) | (simp; omega)) (by first | (go_simp; done))
  have d1_w1 : w1.cell? ⟨w.heap.size + 2, 1, none⟩ = some (.int .i64 0) := below_cell_of hb_w1 (by first | (go_simp; done) | (refine below_cell_of (w := w) ?_ (by first | assumption | (go_simp; done)); (repeat (first | assumption | exact Below.refl _ _ | refine below_set ?_ (by first | omega | (simp; done) | (simp; omega)) _ | refine below_drawn ?_ | refine below_drawnN ?_ _ | refine below_new ?_ _))))
  have fzd1_w1 : w1.frozen? ⟨w.heap.size + 2, 1, none⟩ = false := below_frozen_of hb_w1 (by first | omega | (simp; done) | (simp; omega)) (by first | (go_simp; done))
  have p0_w1 : w1.cell? ⟨p, 0, none⟩ = some (.int .i64 an) := below_cell_of hb_w1 (by first | (go_simp; done) | (refine below_cell_of (w := w) ?_ (by first | assumption | (go_simp; done)); (repeat (first | assumption | exact Below.refl _ _ | refine below_set ?_ (by first | omega | (simp; done) | (simp; omega)) _ | refine below_drawn ?_ | refine below_drawnN ?_ _ | refine below_new ?_ _))))
  have p1_w1 : w1.cell? ⟨p, 1, none⟩ = some (.int .i64 ad) := below_cell_of hb_w1 (by first | (go_simp; done) | (refine below_cell_of (w := w) ?_ (by first | assumption | (go_simp; done)); (repeat (first | assumption | exact Below.refl _ _ | refine below_set ?_ (by first | omega | (simp; done) | (simp; omega)) _ | refine below_drawn ?_ | refine below_drawnN ?_ _ | refine below_new ?_ _))))
  have q0_w1 : w1.cell? ⟨q, 0, none⟩ = some (.int .i64 bn) := below_cell_of hb_w1 (by first | (go_simp; done) | (refine below_cell_of (w := w) ?_ (by first | assumption | (go_simp; done)); (repeat (first | assumption | exact Below.refl _ _ | refine below_set ?_ (by first | omega | (simp; done) | (simp; omega)) _ | refine below_drawn ?_ | refine below_drawnN ?_ _ | refine below_new ?_ _))))
  have q1_w1 : w1.cell? ⟨q, 1, none⟩ = some (.int .i64 bd) := below_cell_of hb_w1 (by first | (go_simp; done) | (refine below_cell_of (w := w) ?_ (by first | assumption | (go_simp; done)); (repeat (first | assumption | exact Below.refl _ _ | refine below_set ?_ (by first | omega | (simp; done) | (simp; omega)) _ | refine below_drawn ?_ | refine below_drawnN ?_ _ | refine below_new ?_ _))))
  go_wp2_with fail
  refine (valid_any bn bd _ kb).mono ?_
  rw [HB.out]
  rintro e w2 ⟨rfl, hb_w2⟩
  have hB_w2 : Below w.heap.size w w2 := below_on (by first | ((repeat (first | assumption | exact Below.refl _ _ | refine below_set ?_ (by first | omega | (simp; done) | (simp; omega)) _ | refine below_drawn ?_ | refine below_drawnN ?_ _ | refine below_new ?_ _)); done) | (refine below_on hB_w1 ?_; (repeat (first | assumption | exact Below.refl _ _ | refine below_set ?_ (by first | omega | (simp; done) | (simp; omega)) _ | refine below_drawn ?_ | refine below_drawnN ?_ _ | refine below_new ?_ _)))) hb_w2
  have hz_w2 := hb_w2.size
  try simp only [World.size_setCell] at hz_w2
  try simp only [World.size_drew] at hz_w2
  try simp only [World.size_drewN] at hz_w2
  try simp only [World.size_alloc] at hz_w2
  try simp only [World.size_setCell] at hz_w2
  try simp only [World.size_drew] at hz_w2
  try simp only [World.size_drewN] at hz_w2
  try simp only [World.size_alloc] at hz_w2
  have hl0_w2 : w.heap.size < w2.heap.size := by omega
  have hl1_w2 : w.heap.size + 1 < w2.heap.size := by omega
  have hl2_w2 : w.heap.size + 2 < w2.heap.size := by omega
  have hl3_w2 : p < w2.heap.size := by omega
  have hl4_w2 : q < w2.heap.size := by omega
  have c0_w2 : w2.cell? ⟨w.heap.size, 0, none⟩ = some (.int .i64 an) := below_cell_of hb_w2 (by first | (go_simp; done) | (refine below_cell_of (w := w1) ?_ (by first | assumption | (go_simp; done)); (repeat (first | assumption | exact Below.refl _ _ | refine below_set ?_ (by first | omega | (simp; done) | (simp; omega)) _ | refine below_drawn ?_ | refine below_drawnN ?_ _ | refine below_new ?_ _))))
  have c1_w2 : w2.cell? ⟨w.heap.size, 1, none⟩ = some (.int .i64 ad) := below_cell_of hb_w2 (by first | (go_simp; done) | (refine below_cell_of (w := w1) ?_ (by first | assumption | (go_simp; done)); (repeat (first | assumption | exact Below.refl _ _ | refine below_set ?_ (by first | omega | (simp; done) | (simp; omega)) _ | refine below_drawn ?_ | refine below_drawnN ?_ _ | refine below_new ?_ _))))
  have c2_w2 : w2.cell? ⟨w.heap.size + 1, 0, none⟩ = some (.int .i64 bn) := below_cell_of hb_w2 (by first | (go_simp; done) | (refine below_cell_of (w := w1) ?_ (by first | assumption | (go_simp; done)); (repeat (first | assumption | exact Below.refl _ _ | refine below_set ?_ (by first | omega | (simp; done) | (simp; omega)) _ | refine below_drawn ?_ | refine below_drawnN ?_ _ | refine below_new ?_ _))))
  have c3_w2 : w2.cell? ⟨w.heap.size + 1, 1, none⟩ = some (.int .i64 bd) := below_cell_of hb_w2 (by first | (go_simp; done) | (refine below_cell_of (w := w1) ?_ (by first | assumption | (go_simp; done)); (repeat (first | assumption | exact Below.refl _ _ | refine below_set ?_ (by first | omega | (simp; done) | (simp; omega)) _ | refine below_drawn ?_ | refine below_drawnN ?_ _ | refine below_new ?_ _))))
  have d0_w2 : w2.cell? ⟨w.heap.size + 2, 0, none⟩ = some (.int .i64 0) := below_cell_of hb_w2 (by first | (go_simp; done) | (refine below_cell_of (w := w1) ?_ (by first | assumption | (go_simp; done)); (repeat (first | assumption | exact Below.refl _ _ | refine below_set ?_ (by first | omega | (simp; done) | (simp; omega)) _ | refine below_drawn ?_ | refine below_drawnN ?_ _ | refine below_new ?_ _))))
  have fzd0_w2 : w2.frozen? ⟨w.heap.size + 2, 0, none⟩ = false := below_frozen_of hb_w2 (by first | omega | (simp; done) | (simp; omega)) (by first | (go_simp; done) | (refine below_frozen_of (w := w1) ?_ (by omega) (by first | assumption | (go_simp; done)); (repeat (first | assumption | exact Below.refl _ _ | refine below_set ?_ (by first | omega | (simp; done) | (simp; omega)) _ | refine below_drawn ?_ | refine below_drawnN ?_ _ | refine below_new ?_ _))))
  have d1_w2 : w2.cell? ⟨w.heap.size + 2, 1, none⟩ = some (.int .i64 0) := below_cell_of hb_w2 (by first | (go_simp; done) | (refine below_cell_of (w := w1) ?_ (by first | assumption | (go_simp; done)); (repeat (first | assumption | exact Below.refl _ _ | refine below_set ?_ (by first | omega | (simp; done) | (simp; omega)) _ | refine below_drawn ?_ | refine below_drawnN ?_ _ | refine below_new ?_ _))))
  have fzd1_w2 : w2.frozen? ⟨w.heap.size + 2, 1, none⟩ = false := below_frozen_of hb_w2 (by first | omega | (simp; done) | (simp; omega)) (by first | (go_simp; done) | (refine below_frozen_of (w := w1) ?_ (by omega) (by first | assumption | (go_simp; done)); (repeat (first | assumption | exact Below.refl _ _ | refine below_set ?_ (by first | omega | (simp; done) | (simp; omega)) _ | refine below_drawn ?_ | refine below_drawnN ?_ _ | refine below_new ?_ _))))
  have p0_w2 : w2.cell? ⟨p, 0, none⟩ = some (.int .i64 an) := below_cell_of hb_w2 (by first | (go_simp; done) | (refine below_cell_of (w := w1) ?_ (by first | assumption | (go_simp; done)); (repeat (first | assumption | exact Below.refl _ _ | refine below_set ?_ (by first | omega | (simp; done) | (simp; omega)) _ | refine below_drawn ?_ | refine below_drawnN ?_ _ | refine below_new ?_ _))))
  have p1_w2 : w2.cell? ⟨p, 1, none⟩ = some (.int .i64 ad) := below_cell_of hb_w2 (by first | (go_simp; done) | (refine below_cell_of (w := w1) ?_ (by first | assumption | (go_simp; done)); (repeat (first | assumption | exact Below.refl _ _ | refine below_set ?_ (by first | omega | (simp; done) | (simp; omega)) _ | refine below_drawn ?_ | refine below_drawnN ?_ _ | refine below_new ?_ _))))
  have q0_w2 : w2.cell? ⟨q, 0, none⟩ = some (.int .i64 bn) := below_cell_of hb_w2 (by first | (go_simp; done) | (refine below_cell_of (w := w1) ?_ (by first | assumption | (go_simp; done)); (repeat (first | assumption | exact Below.refl _ _ | refine below_set ?_ (by first | omega | (simp; done) | (simp; omega)) _ | refine below_drawn ?_ | refine below_drawnN ?_ _ | refine below_new ?_ _))))
  have q1_w2 : w2.cell? ⟨q, 1, none⟩ = some (.int .i64 bd) := below_cell_of hb_w2 (by first | (go_simp; done) | (refine below_cell_of (w := w1) ?_ (by first | assumption | (go_simp; done)); (repeat (first | assumption | exact Below.refl _ _ | refine below_set ?_ (by first | omega | (simp; done) | (simp; omega)) _ | refine below_drawn ?_ | refine below_drawnN ?_ _ | refine below_new ?_ _))))
  go_wp2_with fail
  refine (div_clo p q an ad bn bd _ HA.out HB.out ⟨p0_w2, p1_w2, q0_w2, q1_w2⟩).mono ?_
  rw [EN.out, ED.out]
  rintro e w3 ⟨rfl, hb_w3⟩
  have hB_w3 : Below w.heap.size w w3 := below_on (by first | ((repeat (first | assumption | exact Below.refl _ _ | refine below_set ?_ (by first | omega | (simp; done) | (simp; omega)) _ | refine below_drawn ?_ | refine below_drawnN ?_ _ | refine below_new ?_ _)); done) | (refine below_on hB_w2 ?_; (repeat (first | assumption | exact Below.refl _ _ | refine below_set ?_ (by first | omega | (simp; done) | (simp; omega)) _ | refine below_drawn ?_ | refine below_drawnN ?_ _ | refine below_new ?_ _)))) hb_w3
  have hz_w3 := hb_w3.size
  try simp only [World.size_setCell] at hz_w3
  try simp only [World.size_drew] at hz_w3
  try simp only [World.size_drewN] at hz_w3
  try simp only [World.size_alloc] at hz_w3
  try simp only [World.size_setCell] at hz_w3
  try simp only [World.size_drew] at hz_w3
  try simp only [World.size_drewN] at hz_w3
  try simp only [World.size_alloc] at hz_w3
  have hl0_w3 : w.heap.size < w3.heap.size := by omega
  have hl1_w3 : w.heap.size + 1 < w3.heap.size := by omega
  have hl2_w3 : w.heap.size + 2 < w3.heap.size := by omega
  have hl3_w3 : p < w3.heap.size := by omega
  have hl4_w3 : q < w3.heap.size := by omega
  have c0_w3 : w3.cell? ⟨w.heap.size, 0, none⟩ = some (.int .i64 an) := below_cell_of hb_w3 (by first | (go_simp; done) | (refine below_cell_of (w := w2) ?_ (by first | assumption | (go_simp; done)); (repeat (first | assumption | exact Below.refl _ _ | refine below_set ?_ (by first | omega | (simp; done) | (simp; omega)) _ | refine below_drawn ?_ | refine below_drawnN ?_ _ | refine below_new ?_ _))))
  have c1_w3 : w3.cell? ⟨w.heap.size, 1, none⟩ = some (.int .i64 ad) := below_cell_of hb_w3 (by first | (go_simp; done) | (refine below_cell_of (w := w2) ?_ (by first | assumption | (go_simp; done)); (repeat (first | assumption | exact Below.refl _ _ | refine below_set ?_ (by first | omega | (simp; done) | (simp; omega)) _ | refine below_drawn ?_ | refine below_drawnN ?_ _ | refine below_new ?_ _))))
  have c2_w3 : w3.cell? ⟨w.heap.size + 1, 0, none⟩ = some (.int .i64 bn) := below_cell_of hb_w3 (by first | (go_simp; done) | (refine below_cell_of (w := w2) ?_ (by first | assumption | (go_simp; done)); (repeat (first | assumption | exact Below.refl _ _ | refine below_set ?_ (by first | omega | (simp; done) | (simp; omega)) _ | refine below_drawn ?_ | refine below_drawnN ?_ _ | refine below_new ?_ _))))
  have c3_w3 : w3.cell? ⟨w.heap.size + 1, 1, none⟩ = some (.int .i64 bd) := below_cell_of hb_w3 (by first | (go_simp; done) | (refine below_cell_of (w := w2) ?_ (by first | assumption | (go_simp; done)); (repeat (first | assumption | exact Below.refl _ _ | refine below_set ?_ (by first | omega | (simp; done) | (simp; omega)) _ | refine below_drawn ?_ | refine below_drawnN ?_ _ | refine below_new ?_ _))))
  have d0_w3 : w3.cell? ⟨w.heap.size + 2, 0, none⟩ = some (.int .i64 0) := below_cell_of hb_w3 (by first | (go_simp; done) | (refine below_cell_of (w := w2) ?_ (by first | assumption | (go_simp; done)); (repeat (first | assumption | exact Below.refl _ _ | refine below_set ?_ (by first | omega | (simp; done) | (simp; omega)) _ | refine below_drawn ?_ | refine below_drawnN ?_ _ | refine below_new ?_ _))))
  have fzd0_w3 : w3.frozen? ⟨w.heap.size + 2, 0, none⟩ = false := below_frozen_of hb_w3 (by first | omega | (simp; done) | (simp; omega)) (by first | (go_simp; done) | (refine below_frozen_of (w := w2) ?_ (by omega) (by first | assumption | (go_simp; done)); (repeat (first | assumption | exact Below.refl _ _ | refine below_set ?_ (by first | omega | (simp; done) | (simp; omega)) _ | refine below_drawn ?_ | refine below_drawnN ?_ _ | refine below_new ?_ _))))
  have d1_w3 : w3.cell? ⟨w.heap.size + 2, 1, none⟩ = some (.int .i64 0) := below_cell_of hb_w3 (by first | (go_simp; done) | (refine below_cell_of (w := w2) ?_ (by first | assumption | (go_simp; done)); (repeat (first | assumption | exact Below.refl _ _ | refine below_set ?_ (by first | omega | (simp; done) | (simp; omega)) _ | refine below_drawn ?_ | refine below_drawnN ?_ _ | refine below_new ?_ _))))
  have fzd1_w3 : w3.frozen? ⟨w.heap.size + 2, 1, none⟩ = false := below_frozen_of hb_w3 (by first | omega | (simp; done) | (simp; omega)) (by first | (go_simp; done) | (refine below_frozen_of (w := w2) ?_ (by omega) (by first | assumption | (go_simp; done)); (repeat (first | assumption | exact Below.refl _ _ | refine below_set ?_ (by first | omega | (simp; done) | (simp; omega)) _ | refine below_drawn ?_ | refine below_drawnN ?_ _ | refine below_new ?_ _))))
  have p0_w3 : w3.cell? ⟨p, 0, none⟩ = some (.int .i64 an) := below_cell_of hb_w3 (by first | (go_simp; done) | (refine below_cell_of (w := w2) ?_ (by first | assumption | (go_simp; done)); (repeat (first | assumption | exact Below.refl _ _ | refine below_set ?_ (by first | omega | (simp; done) | (simp; omega)) _ | refine below_drawn ?_ | refine below_drawnN ?_ _ | refine below_new ?_ _))))
  have p1_w3 : w3.cell? ⟨p, 1, none⟩ = some (.int .i64 ad) := below_cell_of hb_w3 (by first | (go_simp; done) | (refine below_cell_of (w := w2) ?_ (by first | assumption | (go_simp; done)); (repeat (first | assumption | exact Below.refl _ _ | refine below_set ?_ (by first | omega | (simp; done) | (simp; omega)) _ | refine below_drawn ?_ | refine below_drawnN ?_ _ | refine below_new ?_ _))))
  have q0_w3 : w3.cell? ⟨q, 0, none⟩ = some (.int .i64 bn) := below_cell_of hb_w3 (by first | (go_simp; done) | (refine below_cell_of (w := w2) ?_ (by first | assumption | (go_simp; done)); (repeat (first | assumption | exact Below.refl _ _ | refine below_set ?_ (by first | omega | (simp; done) | (simp; omega)) _ | refine below_drawn ?_ | refine below_drawnN ?_ _ | refine below_new ?_ _))))
  have q1_w3 : w3.cell? ⟨q, 1, none⟩ = some (.int .i64 bd) := below_cell_of hb_w3 (by first | (go_simp; done) | (refine below_cell_of (w := w2) ?_ (by first | assumption | (go_simp; done)); (repeat (first | assumption | exact Below.refl _ _ | refine below_set ?_ (by first | omega | (simp; done) | (simp; omega)) _ | refine below_drawn ?_ | refine below_drawnN ?_ _ | refine below_new ?_ _))))
  go_wp2_with fail
  refine (checked_any num den _ h0 h1 h2 h3 hd).mono ?_
  rw [HR.out]
  rintro e w4 ⟨rfl, hb_w4⟩
  have hB_w4 : Below w.heap.size w w4 := below_on (by first | ((repeat (first | assumption | exact Below.refl _ _ | refine below_set ?_ (by first | omega | (simp; done) | (simp; omega)) _ | refine below_drawn ?_ | refine below_drawnN ?_ _ | refine below_new ?_ _)); done) | (refine below_on hB_w3 ?_; (repeat (first | assumption | exact Below.refl _ _ | refine below_set ?_ (by first | omega | (simp; done) | (simp; omega)) _ | refine below_drawn ?_ | refine below_drawnN ?_ _ | refine below_new ?_ _)))) hb_w4
  have hz_w4 := hb_w4.size
  try simp only [World.size_setCell] at hz_w4
  try simp only [World.size_drew] at hz_w4
  try simp only [World.size_drewN] at hz_w4
  try simp only [World.size_alloc] at hz_w4
  try simp only [World.size_setCell] at hz_w4
  try simp only [World.size_drew] at hz_w4
  try simp only [World.size_drewN] at hz_w4
  try simp only [World.size_alloc] at hz_w4
  have hl0_w4 : w.heap.size < w4.heap.size := by omega
  have hl1_w4 : w.heap.size + 1 < w4.heap.size := by omega
  have hl2_w4 : w.heap.size + 2 < w4.heap.size := by omega
  have hl3_w4 : p < w4.heap.size := by omega
  have hl4_w4 : q < w4.heap.size := by omega
  have c0_w4 : w4.cell? ⟨w.heap.size, 0, none⟩ = some (.int .i64 an) := below_cell_of hb_w4 (by first | (go_simp; done) | (refine below_cell_of (w := w3) ?_ (by first | assumption | (go_simp; done)); (repeat (first | assumption | exact Below.refl _ _ | refine below_set ?_ (by first | omega | (simp; done) | (simp; omega)) _ | refine below_drawn ?_ | refine below_drawnN ?_ _ | refine below_new ?_ _))))
  have c1_w4 : w4.cell? ⟨w.heap.size, 1, none⟩ = some (.int .i64 ad) := below_cell_of hb_w4 (by first | (go_simp; done) | (refine below_cell_of (w := w3) ?_ (by first | assumption | (go_simp; done)); (repeat (first | assumption | exact Below.refl _ _ | refine below_set ?_ (by first | omega | (simp; done) | (simp; omega)) _ | refine below_drawn ?_ | refine below_drawnN ?_ _ | refine below_new ?_ _))))
  have c2_w4 : w4.cell? ⟨w.heap.size + 1, 0, none⟩ = some (.int .i64 bn) := below_cell_of hb_w4 (by first | (go_simp; done) | (refine below_cell_of (w := w3) ?_ (by first | assumption | (go_simp; done)); (repeat (first | assumption | exact Below.refl _ _ | refine below_set ?_ (by first | omega | (simp; done) | (simp; omega)) _ | refine below_drawn ?_ | refine below_drawnN ?_ _ | refine below_new ?_ _))))
  have c3_w4 : w4.cell? ⟨w.heap.size + 1, 1, none⟩ = some (.int .i64 bd) := below_cell_of hb_w4 (by first | (go_simp; done) | (refine below_cell_of (w := w3) ?_ (by first | assumption | (go_simp; done)); (repeat (first | assumption | exact Below.refl _ _ | refine below_set ?_ (by first | omega | (simp; done) | (simp; omega)) _ | refine below_drawn ?_ | refine below_drawnN ?_ _ | refine below_new ?_ _))))
  have d0_w4 : w4.cell? ⟨w.heap.size + 2, 0, none⟩ = some (.int .i64 0) := below_cell_of hb_w4 (by first | (go_simp; done) | (refine below_cell_of (w := w3) ?_ (by first | assumption | (go_simp; done)); (repeat (first | assumption | exact Below.refl _ _ | refine below_set ?_ (by first | omega | (simp; done) | (simp; omega)) _ | refine below_drawn ?_ | refine below_drawnN ?_ _ | refine below_new ?_ _))))
  have fzd0_w4 : w4.frozen? ⟨w.heap.size + 2, 0, none⟩ = false := below_frozen_of hb_w4 (by first | omega | (simp; done) | (simp; omega)) (by first | (go_simp; done) | (refine below_frozen_of (w := w3) ?_ (by omega) (by first | assumption | (go_simp; done)); (repeat (first | assumption | exact Below.refl _ _ | refine below_set ?_ (by first | omega | (simp; done) | (simp; omega)) _ | refine below_drawn ?_ | refine below_drawnN ?_ _ | refine below_new ?_ _))))
  have d1_w4 : w4.cell? ⟨w.heap.size + 2, 1, none⟩ = some (.int .i64 0) := below_cell_of hb_w4 (by first | (go_simp; done) | (refine below_cell_of (w := w3) ?_ (by first | assumption | (go_simp; done)); (repeat (first | assumption | exact Below.refl _ _ | refine below_set ?_ (by first | omega | (simp; done) | (simp; omega)) _ | refine below_drawn ?_ | refine below_drawnN ?_ _ | refine below_new ?_ _))))
  have fzd1_w4 : w4.frozen? ⟨w.heap.size + 2, 1, none⟩ = false := below_frozen_of hb_w4 (by first | omega | (simp; done) | (simp; omega)) (by first | (go_simp; done) | (refine below_frozen_of (w := w3) ?_ (by omega) (by first | assumption | (go_simp; done)); (repeat (first | assumption | exact Below.refl _ _ | refine below_set ?_ (by first | omega | (simp; done) | (simp; omega)) _ | refine below_drawn ?_ | refine below_drawnN ?_ _ | refine below_new ?_ _))))
  have p0_w4 : w4.cell? ⟨p, 0, none⟩ = some (.int .i64 an) := below_cell_of hb_w4 (by first | (go_simp; done) | (refine below_cell_of (w := w3) ?_ (by first | assumption | (go_simp; done)); (repeat (first | assumption | exact Below.refl _ _ | refine below_set ?_ (by first | omega | (simp; done) | (simp; omega)) _ | refine below_drawn ?_ | refine below_drawnN ?_ _ | refine below_new ?_ _))))
  have p1_w4 : w4.cell? ⟨p, 1, none⟩ = some (.int .i64 ad) := below_cell_of hb_w4 (by first | (go_simp; done) | (refine below_cell_of (w := w3) ?_ (by first | assumption | (go_simp; done)); (repeat (first | assumption | exact Below.refl _ _ | refine below_set ?_ (by first | omega | (simp; done) | (simp; omega)) _ | refine below_drawn ?_ | refine below_drawnN ?_ _ | refine below_new ?_ _))))
  have q0_w4 : w4.cell? ⟨q, 0, none⟩ = some (.int .i64 bn) := below_cell_of hb_w4 (by first | (go_simp; done) | (refine below_cell_of (w := w3) ?_ (by first | assumption | (go_simp; done)); (repeat (first | assumption | exact Below.refl _ _ | refine below_set ?_ (by first | omega | (simp; done) | (simp; omega)) _ | refine below_drawn ?_ | refine below_drawnN ?_ _ | refine below_new ?_ _))))
  have q1_w4 : w4.cell? ⟨q, 1, none⟩ = some (.int .i64 bd) := below_cell_of hb_w4 (by first | (go_simp; done) | (refine below_cell_of (w := w3) ?_ (by first | assumption | (go_simp; done)); (repeat (first | assumption | exact Below.refl _ _ | refine below_set ?_ (by first | omega | (simp; done) | (simp; omega)) _ | refine below_drawn ?_ | refine below_drawnN ?_ _ | refine below_new ?_ _))))
  go_wp2
  exact bodyPost_ret (v := .tuple #[.agg #[.int .i64 x, .int .i64 y], .int .i64 z]) (by simp [results, Try.results31, go_sem, d0_w4, d1_w4]) rfl ⟨rfl, by (repeat (first | assumption | exact Below.refl _ _ | refine below_set ?_ (by first | omega | (simp; done) | (simp; omega)) _ | refine below_drawn ?_ | refine below_drawnN ?_ _ | refine below_new ?_ _))⟩
theorem of_div_any (p q : Nat) (an ad bn bd : Int) (w : World) (ka : an ≤ 9223372036854775807) (kb : bn ≤ 9223372036854775807) (hp : p < w.heap.size) (hq : q < w.heap.size) (hc : TwoR w p q an ad bn bd) : Calls Try.prog 31 #[.agg #[.int .i64 an, .int .i64 ad], .agg #[.int .i64 bn, .int .i64 bd], .func (.func 35) #[] #[.pointer (some ⟨p, 0, none⟩), .pointer (some ⟨q, 0, none⟩)]] w fun e w' => e = .returned (.tuple #[.agg #[.int .i64 (Rt.div an ad bn bd).1, .int .i64 (Rt.div an ad bn bd).2.1], .int .i64 (Rt.div an ad bn bd).2.2]) ∧ Below w.heap.size w w' := by
  unfold Rt.div Rt.op
  cases ha : Rt.valid an ad with
  | false => rw [if_neg (by simp)]; exact of_bad1 35 p q an ad bn bd w ka kb ha
  | true =>
    cases hb : Rt.valid bn bd with
    | false => rw [if_neg (by simp)]; exact of_bad2 35 p q an ad bn bd w ka kb ha hb
    | true =>
      rw [if_pos ⟨rfl, rfl⟩]
      obtain ⟨a0, a1, a2, a3⟩ := Rt.valid_bd ha
      obtain ⟨b0, b1, b2, b3⟩ := Rt.valid_bd hb
      obtain ⟨m0, n0⟩ := prod_in (a := ad) (b := bn) (by omega) (by omega) (by omega) (by omega)
      obtain ⟨m1, n1⟩ := prod_in (a := an) (b := bd) (by omega) (by omega) (by omega) (by omega)
      by_cases hd : ad * bn = 0
      · rw [if_pos hd]; exact of_null p q an ad bn bd _ _ w ka kb ha hb hp hq hc rfl rfl hd
      · rw [if_neg hd]; exact of_div p q an ad bn bd _ _ _ _ _ w ka kb ha hb hp hq hc rfl rfl (by omega) (by omega) (by omega) (by omega) hd rfl
set_option maxHeartbeats 1000000 in
theorem div_good (an ad bn bd x y z : Int) (w : World) (ka : an ≤ 9223372036854775807) (kb : bn ≤ 9223372036854775807) (hr : Rt.div an ad bn bd = (x, y, z)) : Calls Try.prog 19 #[.agg #[.int .i64 an, .int .i64 ad], .agg #[.int .i64 bn, .int .i64 bd]] w fun e w' => e = .returned (.tuple #[.agg #[.int .i64 x, .int .i64 y], .int .i64 z]) ∧ Below w.heap.size w w' := by
  have hmf : ∀ (fn : Fn) (first cap : Array Value) (w : World), (Instr.makeFunc fn first cap).run Try.prog w = .ok (.func fn first cap) w := fun _ _ _ _ => rfl
  have HR := Lib.hid hr
  clear hr
  go_enter Try.func19, Try.ntmps19
  go_wp2_with fail
  refine (of_div_any w.heap.size (w.heap.size + 1) an ad bn bd _ ka kb (by simp; omega) (by simp) ⟨by go_simp, by go_simp, by go_simp, by go_simp⟩).mono ?_
  rw [HR.out]
  rintro e w1 ⟨rfl, hb_w1⟩
  have hB_w1 : Below w.heap.size w w1 := below_on (by (repeat (first | assumption | exact Below.refl _ _ | refine below_set ?_ (by first | omega | (simp; done) | (simp; omega)) _ | refine below_drawn ?_ | refine below_drawnN ?_ _ | refine below_new ?_ _))) hb_w1
  have hz_w1 := hb_w1.size
  try simp only [World.size_setCell] at hz_w1
  try simp only [World.size_drew] at hz_w1
  try simp only [World.size_drewN] at hz_w1
  try simp only [World.size_alloc] at hz_w1
  try simp only [World.size_setCell] at hz_w1
  try simp only [World.size_drew] at hz_w1
  try simp only [World.size_drewN] at hz_w1
  try simp only [World.size_alloc] at hz_w1
  have hl0_w1 : w.heap.size + 2 < w1.heap.size := by omega
  have d0_w1 : w1.cell? ⟨w.heap.size + 2, 0, none⟩ = some (.int .i64 0) := below_cell_of hb_w1 (by first | (go_simp; done) | (refine below_cell_of (w := w) ?_ (by first | assumption | (go_simp; done)); (repeat (first | assumption | exact Below.refl _ _ | refine below_set ?_ (by first | omega | (simp; done) | (simp; omega)) _ | refine below_drawn ?_ | refine below_drawnN ?_ _ | refine below_new ?_ _))))
  have fzd0_w1 : w1.frozen? ⟨w.heap.size + 2, 0, none⟩ = false := below_frozen_of hb_w1 (by first | omega | (simp; done) | (simp; omega)) (by first | (go_simp; done))
  have d1_w1 : w1.cell? ⟨w.heap.size + 2, 1, none⟩ = some (.int .i64 0) := below_cell_of hb_w1 (by first | (go_simp; done) | (refine below_cell_of (w := w) ?_ (by first | assumption | (go_simp; done)); (repeat (first | assumption | exact Below.refl _ _ | refine below_set ?_ (by first | omega | (simp; done) | (simp; omega)) _ | refine below_drawn ?_ | refine below_drawnN ?_ _ | refine below_new ?_ _))))
  have fzd1_w1 : w1.frozen? ⟨w.heap.size + 2, 1, none⟩ = false := below_frozen_of hb_w1 (by first | omega | (simp; done) | (simp; omega)) (by first | (go_simp; done))
  go_wp2
  exact bodyPost_ret (v := .tuple #[.agg #[.int .i64 x, .int .i64 y], .int .i64 z]) (by simp [results, Try.results19, go_sem, d0_w1, d1_w1]) rfl ⟨rfl, by (repeat (first | assumption | exact Below.refl _ _ | refine below_set ?_ (by first | omega | (simp; done) | (simp; omega)) _ | refine below_drawn ?_ | refine below_drawnN ?_ _ | refine below_new ?_ _))⟩
theorem div_any (an ad bn bd : Int) (w : World) (ka : an ≤ 9223372036854775807) (kb : bn ≤ 9223372036854775807) : Calls Try.prog 19 #[.agg #[.int .i64 an, .int .i64 ad], .agg #[.int .i64 bn, .int .i64 bd]] w fun e w' => e = .returned (.tuple #[.agg #[.int .i64 (Rt.div an ad bn bd).1, .int .i64 (Rt.div an ad bn bd).2.1], .int .i64 (Rt.div an ad bn bd).2.2]) ∧ Below w.heap.size w w' := div_good an ad bn bd _ _ _ w ka kb rfl
end Go.Proofs.Ytjnjokkhkfdaiaa
