/- SameList, Packets and Same of the reference, where both are the same. -/
import Derived.Test.YtdecclklenaoaaaDoorDuQ
namespace Go.Proofs.YtdecclklenaoaaaDoor
open Go.RowKit

set_option maxRecDepth 100000 in
set_option maxHeartbeats 4000000 in
theorem samelist_yes (a b : Option Addr) (n c c' : Nat) (xs : List Ea.Item) (w : World) (ha : RdQ w a n xs) (hb : RdQ w b n xs) (hn : n ≤ 1000) :
    Calls Tryd.prog 27 #[.slice a n c, .slice b n c'] w fun e V => e = .returned (.bool true) ∧ Below w.heap.size w V := by
  have HA := Lib.hid ha
  have HB := Lib.hid hb
  clear ha hb
  go_enter Tryd.func27, Tryd.ntmps27
  go_wp2
  go_loopw [5] (fun i wr => ∃ k : Nat, k ≤ n ∧ i = .int .i64 k ∧ Below w.heap.size w wr) (fun i _ => n - (intOf i).toNat)
  case atStart => exact ⟨0, Nat.zero_le _, rfl, Below.refl _ _⟩
  case round =>
    obtain ⟨k, hk, rfl, hW⟩ := hrel
    have HW := Lib.hid hW
    clear hW
    by_cases hlt : k < n
    · obtain ⟨p, o, rfl, hx⟩ := (HA.out.below HW.out).2 k hlt
      obtain ⟨q, o', rfl, hy⟩ := (HB.out.below HW.out).2 k hlt
      obtain ⟨x, hxx⟩ : ∃ x, xs.getD k default = x := ⟨_, rfl⟩
      rw [hxx] at hx hy
      clear hxx
      have x0 : wr.cell? ⟨p, o + k * 9, none⟩ = some (.int .i64 x.p.flow) := hx 0 _ rfl
      have x1 := hx 1 _ rfl
      have x2 := hx 2 _ rfl
      have x3 := hx 3 _ rfl
      have x4 := hx 4 _ rfl
      have x5 := hx 5 _ rfl
      have x6 := hx 6 _ rfl
      have x7 := hx 7 _ rfl
      have x8 := hx 8 _ rfl
      have y0 : wr.cell? ⟨q, o' + k * 9, none⟩ = some (.int .i64 x.p.flow) := hy 0 _ rfl
      have y1 := hy 1 _ rfl
      have y2 := hy 2 _ rfl
      have y3 := hy 3 _ rfl
      have y4 := hy 4 _ rfl
      have y5 := hy 5 _ rfl
      have y6 := hy 6 _ rfl
      have y7 := hy 7 _ rfl
      have y8 := hy 8 _ rfl
      clear hx hy
      go_wp2
      go_quiet (fail)
      go_wp2
      go_roundw
      case rel => exact ⟨k + 1, by omega, by go_num, below_drawnN HW.out _⟩
      case measure => simp [intOf]; omega
    · obtain rfl : k = n := by omega
      go_wp2
      go_ret
      exact ⟨rfl, HW.out⟩
set_option maxRecDepth 100000 in
set_option maxHeartbeats 4000000 in
theorem packets_yes (v u : Value) (ps : List Ea.Pkt) (w : World) (hv : RdPk w v ps) (hu : RdPk w u ps) (hn : ps.length ≤ 1000) :
    Calls Tryd.prog 17 #[v, u] w fun e V => e = .returned (.bool true) ∧ Below w.heap.size w V := by
  obtain ⟨a, c, rfl, ha⟩ := hv
  obtain ⟨b, c', rfl, hb⟩ := hu
  obtain ⟨n, hnn⟩ : ∃ n, ps.length = n := ⟨_, rfl⟩
  rw [hnn] at ha hb hn ⊢
  have HA := Lib.hid ha
  have HB := Lib.hid hb
  clear ha hb hnn
  go_enter Tryd.func17, Tryd.ntmps17
  go_wp2
  go_loopw [5] (fun i wr => ∃ k : Nat, k ≤ n ∧ i = .int .i64 k ∧ Below w.heap.size w wr) (fun i _ => n - (intOf i).toNat)
  case atStart => exact ⟨0, Nat.zero_le _, rfl, Below.refl _ _⟩
  case round =>
    obtain ⟨k, hk, rfl, hW⟩ := hrel
    have HW := Lib.hid hW
    clear hW
    by_cases hlt : k < n
    · obtain ⟨p, o, rfl, hx'⟩ := HA.out k hlt
      obtain ⟨q, o', rfl, hy'⟩ := HB.out k hlt
      have hx := rangeAt_below hx' HW.out
      have hy := rangeAt_below hy' HW.out
      obtain ⟨x, hxx⟩ : ∃ x, ps.getD k default = x := ⟨_, rfl⟩
      rw [hxx] at hx hy
      clear hxx hx' hy'
      have x0 : wr.cell? ⟨p, o + k * 8, none⟩ = some (.int .i64 x.flow) := hx 0 _ rfl
      have x1 := hx 1 _ rfl
      have x2 := hx 2 _ rfl
      have x3 := hx 3 _ rfl
      have x4 := hx 4 _ rfl
      have x5 := hx 5 _ rfl
      have x6 := hx 6 _ rfl
      have x7 := hx 7 _ rfl
      have y0 : wr.cell? ⟨q, o' + k * 8, none⟩ = some (.int .i64 x.flow) := hy 0 _ rfl
      have y1 := hy 1 _ rfl
      have y2 := hy 2 _ rfl
      have y3 := hy 3 _ rfl
      have y4 := hy 4 _ rfl
      have y5 := hy 5 _ rfl
      have y6 := hy 6 _ rfl
      have y7 := hy 7 _ rfl
      clear hx hy
      go_wp2
      go_quiet (fail)
      go_wp2
      go_roundw
      case rel => exact ⟨k + 1, by omega, by go_num, below_drawnN HW.out _⟩
      case measure => simp [intOf]; omega
    · obtain rfl : k = n := by omega
      go_wp2
      go_ret
      exact ⟨rfl, HW.out⟩
theorem eq_int (a : Int) (d : Nat) (w : World) : (Op.equalIn (d + 1) 3 (.int .i64 a) (.int .i64 a)).run Tryd.prog w = .ok true w := by
  rw [run_equalIn_int w d _ .i64 .i64 a a Tryd.underlying3]
  simp
theorem part_int (cs : Array Value) (o : Nat) (v : Value) (h : cs[o]? = some v) (w : World) : (part 3 cs o).run Tryd.prog w = .ok v w := by
  have hagg : (isAgg 3).run Tryd.prog w = .ok false w := by kernel_rfl
  simp [part, hagg, h]
theorem eq_vars (v0 v1 v2 v3 v4 v5 v6 v7 : Int) (w : World) : (Op.equalIn 10000 25 (.agg #[.int .i64 v0, .int .i64 v1, .int .i64 v2, .int .i64 v3, .int .i64 v4, .int .i64 v5, .int .i64 v6, .int .i64 v7]) (.agg #[.int .i64 v0, .int .i64 v1, .int .i64 v2, .int .i64 v3, .int .i64 v4, .int .i64 v5, .int .i64 v6, .int .i64 v7])).run Tryd.prog w = .ok true w := by
  have hsz : ∀ w, (sizeOf 3).run Tryd.prog w = .ok 1 w := fun w => by kernel_rfl
  rw [show (10000 : Nat) = 9999 + 1 from rfl]
  unfold Op.equalIn
  simp only [Sem.run_bind, run_underlying Tryd.underlying25, Result.andThen_ok, hsz]
  have h0 : ∀ w, (part 3 #[.int .i64 v0, .int .i64 v1, .int .i64 v2, .int .i64 v3, .int .i64 v4, .int .i64 v5, .int .i64 v6, .int .i64 v7] 0).run Tryd.prog w = .ok (.int .i64 v0) w := fun w => part_int _ 0 _ rfl w
  have h1 : ∀ w, (part 3 #[.int .i64 v0, .int .i64 v1, .int .i64 v2, .int .i64 v3, .int .i64 v4, .int .i64 v5, .int .i64 v6, .int .i64 v7] 1).run Tryd.prog w = .ok (.int .i64 v1) w := fun w => part_int _ 1 _ rfl w
  have h2 : ∀ w, (part 3 #[.int .i64 v0, .int .i64 v1, .int .i64 v2, .int .i64 v3, .int .i64 v4, .int .i64 v5, .int .i64 v6, .int .i64 v7] 2).run Tryd.prog w = .ok (.int .i64 v2) w := fun w => part_int _ 2 _ rfl w
  have h3 : ∀ w, (part 3 #[.int .i64 v0, .int .i64 v1, .int .i64 v2, .int .i64 v3, .int .i64 v4, .int .i64 v5, .int .i64 v6, .int .i64 v7] 3).run Tryd.prog w = .ok (.int .i64 v3) w := fun w => part_int _ 3 _ rfl w
  have h4 : ∀ w, (part 3 #[.int .i64 v0, .int .i64 v1, .int .i64 v2, .int .i64 v3, .int .i64 v4, .int .i64 v5, .int .i64 v6, .int .i64 v7] 4).run Tryd.prog w = .ok (.int .i64 v4) w := fun w => part_int _ 4 _ rfl w
  have h5 : ∀ w, (part 3 #[.int .i64 v0, .int .i64 v1, .int .i64 v2, .int .i64 v3, .int .i64 v4, .int .i64 v5, .int .i64 v6, .int .i64 v7] 5).run Tryd.prog w = .ok (.int .i64 v5) w := fun w => part_int _ 5 _ rfl w
  have h6 : ∀ w, (part 3 #[.int .i64 v0, .int .i64 v1, .int .i64 v2, .int .i64 v3, .int .i64 v4, .int .i64 v5, .int .i64 v6, .int .i64 v7] 6).run Tryd.prog w = .ok (.int .i64 v6) w := fun w => part_int _ 6 _ rfl w
  have h7 : ∀ w, (part 3 #[.int .i64 v0, .int .i64 v1, .int .i64 v2, .int .i64 v3, .int .i64 v4, .int .i64 v5, .int .i64 v6, .int .i64 v7] 7).run Tryd.prog w = .ok (.int .i64 v7) w := fun w => part_int _ 7 _ rfl w
  have hE : ∀ (a : Int) (w : World), (Op.equalIn 9999 3 (.int .i64 a) (.int .i64 a)).run Tryd.prog w = .ok true w := fun a w => eq_int a 9998 w
  simp [Std.Legacy.Range.forIn_eq_forIn_range', Std.Legacy.Range.size, List.range', h0, h1, h2, h3, h4, h5, h6, h7, hE]
set_option maxRecDepth 100000 in
set_option maxHeartbeats 8000000 in
theorem same_yes {w : World} {A B room : Int} {ga oa gb ob la lb : Nat} {v0 v7 : Int} {s : Nat} {a1 : Option Addr} {n1 c1 : Nat} {xs : List Ea.Item} {a2 : Option Addr} {n2 c2 : Nat} {ys : List Ea.Item} {b1 : Option Addr} {d1 : Nat} {b2 : Option Addr} {d2 : Nat} (ha : QIn w A B room ga oa v0 v7 a1 n1 c1 xs a2 n2 c2 ys) (hb : QIn w A B room gb ob v0 v7 b1 n1 d1 xs b2 n2 d2 ys) :
    Calls Tryd.prog 16 #[.agg (dqList A B room (some ⟨ga, oa, none⟩) la v0 v7 s).toArray, .agg (dqList A B room (some ⟨gb, ob, none⟩) lb v0 v7 s).toArray] w fun e V => e = .returned (.bool true) ∧ Below w.heap.size w V := by
  have hl1 := ha.r1.1
  have hl2 := ha.r2.1
  have hsh := ha.ok.short
  have HA := Lib.hid ha
  have HB := Lib.hid hb
  clear ha hb
  have hv := fun w => eq_vars v0 0 0 0 0 0 0 v7 w
  go_enter Tryd.func16, Tryd.ntmps16
  go_wp2
  have hn2 : Below w.heap.size w ((w.alloc (.cells (dqList A B room (some ⟨ga, oa, none⟩) la v0 v7 s).toArray 28)).alloc (.cells (dqList A B room (some ⟨gb, ob, none⟩) lb v0 v7 s).toArray 28)) := below_new (below_new (Below.refl _ _) _) _
  have HB0 := Lib.hid hn2
  have HI0 := Lib.hid (HA.out.below hn2)
  have HJ0 := Lib.hid (HB.out.below hn2)
  have HS0 := Lib.hid (show _ ∧ _ ∧ _ ∧ _ ∧ _ ∧ _ from ⟨((Blk.new w (dqList A B room (some ⟨ga, oa, none⟩) la v0 v7 s).toArray 28).below (below_new (Below.refl _ _) (.cells (dqList A B room (some ⟨gb, ob, none⟩) lb v0 v7 s).toArray 28))).cell 5 rfl, (blk_new_at (w.alloc (.cells (dqList A B room (some ⟨ga, oa, none⟩) la v0 v7 s).toArray 28)) (dqList A B room (some ⟨gb, ob, none⟩) lb v0 v7 s).toArray 28 (g := w.heap.size + 1) (by simp only [World.size_alloc])).cell 5 rfl, HI0.out.h1, HI0.out.h2, HJ0.out.h1, HJ0.out.h2⟩)
  have z5 := HS0.out.1
  clear hn2 hv
  refine wp_loop_rounds 3 ?_
  rw [rounds_succ]
  go_wp2
  refine wp_region_held_drew (S := (fun V => V.cell? ⟨w.heap.size, 5, none⟩ = some (.slice (some ⟨ga, oa, none⟩) 2 la) ∧ V.cell? ⟨w.heap.size + 1, 5, none⟩ = some (.slice (some ⟨gb, ob, none⟩) 2 lb) ∧ V.cell? ⟨ga, oa, none⟩ = some (.slice a1 n1 c1) ∧ V.cell? ⟨ga, oa + 1, none⟩ = some (.slice a2 n2 c2) ∧ V.cell? ⟨gb, ob, none⟩ = some (.slice b1 n1 d1) ∧ V.cell? ⟨gb, ob + 1, none⟩ = some (.slice b2 n2 d2))) (by kernel_rfl) ?_ (fun hHeld => ?_)
  · exact ⟨HS0.out.1, HS0.out.2.1, HS0.out.2.2.1, HS0.out.2.2.2.1, HS0.out.2.2.2.2.1, HS0.out.2.2.2.2.2⟩
  refine wpAnyH_take (i := 0) (v := ?_) rfl (by kernel_rfl) (by kernel_rfl) (by kernel_rfl) (fun _ _ _ h => h) (Or.inl ⟨by rfl, ?_⟩) hHeld ?_
  rotate_left
  · intro wS hSw; obtain ⟨hS0, hS1, hS2, hS3, hS4, hS5⟩ := hSw; go_simp; try with_reducible rfl
  try go_simp
  refine wpAnyH_take (i := 1) (v := ?_) rfl (by kernel_rfl) (by kernel_rfl) (by kernel_rfl) (fun _ _ _ h => h) (Or.inl ⟨by rfl, ?_⟩) hHeld ?_
  rotate_left
  · intro wS hSw; obtain ⟨hS0, hS1, hS2, hS3, hS4, hS5⟩ := hSw; go_simp; try with_reducible rfl
  try go_simp
  refine wpAnyH_take (i := 2) (v := ?_) rfl (by kernel_rfl) (by kernel_rfl) (by kernel_rfl) (fun _ _ _ h => h) (Or.inl ⟨by rfl, ?_⟩) hHeld ?_
  rotate_left
  · intro wS hSw; obtain ⟨hS0, hS1, hS2, hS3, hS4, hS5⟩ := hSw; go_simp; try with_reducible rfl
  try go_simp
  refine wpAnyH_take (i := 3) (v := ?_) rfl (by kernel_rfl) (by kernel_rfl) (by kernel_rfl) (fun _ _ _ h => h) (Or.inl ⟨by rfl, ?_⟩) hHeld ?_
  rotate_left
  · intro wS hSw; obtain ⟨hS0, hS1, hS2, hS3, hS4, hS5⟩ := hSw; go_simp; try with_reducible rfl
  try go_simp
  refine wpAnyH_take (i := 4) (v := ?_) rfl (by kernel_rfl) (by kernel_rfl) (by kernel_rfl) (fun _ _ _ h => h) (Or.inl ⟨by rfl, ?_⟩) hHeld ?_
  rotate_left
  · intro wS hSw; obtain ⟨hS0, hS1, hS2, hS3, hS4, hS5⟩ := hSw; go_simp; try with_reducible rfl
  try go_simp
  refine wpAnyH_take (i := 5) (v := ?_) rfl (by kernel_rfl) (by kernel_rfl) (by kernel_rfl) (fun _ _ _ h => h) (Or.inl ⟨by rfl, ?_⟩) hHeld ?_
  rotate_left
  · intro wS hSw; obtain ⟨hS0, hS1, hS2, hS3, hS4, hS5⟩ := hSw; go_simp; try with_reducible rfl
  try go_simp
  refine wpAnyH_take (i := 6) (v := ?_) rfl (by kernel_rfl) (by kernel_rfl) (by kernel_rfl) (fun _ _ _ h => h) (Or.inl ⟨by rfl, ?_⟩) hHeld ?_
  rotate_left
  · intro wS hSw; obtain ⟨hS0, hS1, hS2, hS3, hS4, hS5⟩ := hSw; go_simp; try with_reducible rfl
  try go_simp
  refine wpAnyH_take (i := 7) (v := ?_) rfl (by kernel_rfl) (by kernel_rfl) (by kernel_rfl) (fun _ _ _ h => h) (Or.inl ⟨by rfl, ?_⟩) hHeld ?_
  rotate_left
  · intro wS hSw; obtain ⟨hS0, hS1, hS2, hS3, hS4, hS5⟩ := hSw; go_simp; try with_reducible rfl
  try go_simp
  refine wpAnyH_take (i := 8) (v := ?_) rfl (by kernel_rfl) (by kernel_rfl) (by kernel_rfl) (fun _ _ _ h => h) (Or.inl ⟨by rfl, ?_⟩) hHeld ?_
  rotate_left
  · intro wS hSw; obtain ⟨hS0, hS1, hS2, hS3, hS4, hS5⟩ := hSw; go_simp; try with_reducible rfl
  try go_simp
  refine wpAnyH_take (i := 9) (v := ?_) rfl (by kernel_rfl) (by kernel_rfl) (by kernel_rfl) (fun _ _ _ h => h) (Or.inl ⟨by rfl, ?_⟩) hHeld ?_
  rotate_left
  · intro wS hSw; obtain ⟨hS0, hS1, hS2, hS3, hS4, hS5⟩ := hSw; go_simp; try with_reducible rfl
  try go_simp
  refine wpAnyH_ready (rs := [10]) (by kernel_rfl) (by simp) ?_
  refine AllReadyH.cons rfl (fun K hK => ?_) AllReadyH.nil
  go_simp
  refine (samelist_yes a1 b1 n1 c1 d1 xs _ (HI0.out.r1.below (by repeat (first | exact Below.refl _ _ | refine below_drawnN ?_ _ | refine below_drawn ?_ | refine below_new ?_ _))) (HJ0.out.r1.below (by repeat (first | exact Below.refl _ _ | refine below_drawnN ?_ _ | refine below_drawn ?_ | refine below_new ?_ _))) (by omega)).mono ?_
  rintro e V1 ⟨rfl, hb⟩
  have HB1 : RowKit.Hid (Below w.heap.size w V1) := Lib.hid (below_on (by exact below_drawn HB0.out) hb)
  have HI1 := Lib.hid ((HI0.out.below (by exact (by repeat (first | exact Below.refl _ _ | refine below_drawnN ?_ _ | refine below_drawn ?_ | refine below_new ?_ _)))).below hb)
  have HJ1 := Lib.hid ((HJ0.out.below (by exact (by repeat (first | exact Below.refl _ _ | refine below_drawnN ?_ _ | refine below_drawn ?_ | refine below_new ?_ _)))).below hb)
  refine hK.out _ _ ?_ (fun hHeld => ?_)
  · exact ⟨below_cell_of hb hHeld.1, below_cell_of hb hHeld.2.1, below_cell_of hb hHeld.2.2.1, below_cell_of hb hHeld.2.2.2.1, below_cell_of hb hHeld.2.2.2.2.1, below_cell_of hb hHeld.2.2.2.2.2⟩
  clear hK K
  try go_simp
  refine wpAnyH_take (i := 11) (v := ?_) rfl (by kernel_rfl) (by kernel_rfl) (by kernel_rfl) (fun _ _ _ h => h) (Or.inl ⟨by rfl, ?_⟩) hHeld ?_
  rotate_left
  · intro wS hSw; obtain ⟨hS0, hS1, hS2, hS3, hS4, hS5⟩ := hSw; go_simp; try with_reducible rfl
  try go_simp
  refine wpAnyH_done (by kernel_rfl) ?_ _
  have HS1 := Lib.hid hHeld
  have z5 := hHeld.1
  clear hHeld
  go_wp2
  rw [rounds_succ]
  go_wp2
  refine wp_region_held_drew (S := (fun V => V.cell? ⟨w.heap.size, 5, none⟩ = some (.slice (some ⟨ga, oa, none⟩) 2 la) ∧ V.cell? ⟨w.heap.size + 1, 5, none⟩ = some (.slice (some ⟨gb, ob, none⟩) 2 lb) ∧ V.cell? ⟨ga, oa, none⟩ = some (.slice a1 n1 c1) ∧ V.cell? ⟨ga, oa + 1, none⟩ = some (.slice a2 n2 c2) ∧ V.cell? ⟨gb, ob, none⟩ = some (.slice b1 n1 d1) ∧ V.cell? ⟨gb, ob + 1, none⟩ = some (.slice b2 n2 d2))) (by kernel_rfl) ?_ (fun hHeld => ?_)
  · exact ⟨HS1.out.1, HS1.out.2.1, HS1.out.2.2.1, HS1.out.2.2.2.1, HS1.out.2.2.2.2.1, HS1.out.2.2.2.2.2⟩
  refine wpAnyH_take (i := 0) (v := ?_) rfl (by kernel_rfl) (by kernel_rfl) (by kernel_rfl) (fun _ _ _ h => h) (Or.inl ⟨by rfl, ?_⟩) hHeld ?_
  rotate_left
  · intro wS hSw; obtain ⟨hS0, hS1, hS2, hS3, hS4, hS5⟩ := hSw; go_simp; try with_reducible rfl
  try go_simp
  refine wpAnyH_take (i := 1) (v := ?_) rfl (by kernel_rfl) (by kernel_rfl) (by kernel_rfl) (fun _ _ _ h => h) (Or.inl ⟨by rfl, ?_⟩) hHeld ?_
  rotate_left
  · intro wS hSw; obtain ⟨hS0, hS1, hS2, hS3, hS4, hS5⟩ := hSw; go_simp; try with_reducible rfl
  try go_simp
  refine wpAnyH_take (i := 2) (v := ?_) rfl (by kernel_rfl) (by kernel_rfl) (by kernel_rfl) (fun _ _ _ h => h) (Or.inl ⟨by rfl, ?_⟩) hHeld ?_
  rotate_left
  · intro wS hSw; obtain ⟨hS0, hS1, hS2, hS3, hS4, hS5⟩ := hSw; go_simp; try with_reducible rfl
  try go_simp
  refine wpAnyH_take (i := 3) (v := ?_) rfl (by kernel_rfl) (by kernel_rfl) (by kernel_rfl) (fun _ _ _ h => h) (Or.inl ⟨by rfl, ?_⟩) hHeld ?_
  rotate_left
  · intro wS hSw; obtain ⟨hS0, hS1, hS2, hS3, hS4, hS5⟩ := hSw; go_simp; try with_reducible rfl
  try go_simp
  refine wpAnyH_take (i := 4) (v := ?_) rfl (by kernel_rfl) (by kernel_rfl) (by kernel_rfl) (fun _ _ _ h => h) (Or.inl ⟨by rfl, ?_⟩) hHeld ?_
  rotate_left
  · intro wS hSw; obtain ⟨hS0, hS1, hS2, hS3, hS4, hS5⟩ := hSw; go_simp; try with_reducible rfl
  try go_simp
  refine wpAnyH_take (i := 5) (v := ?_) rfl (by kernel_rfl) (by kernel_rfl) (by kernel_rfl) (fun _ _ _ h => h) (Or.inl ⟨by rfl, ?_⟩) hHeld ?_
  rotate_left
  · intro wS hSw; obtain ⟨hS0, hS1, hS2, hS3, hS4, hS5⟩ := hSw; go_simp; try with_reducible rfl
  try go_simp
  refine wpAnyH_take (i := 6) (v := ?_) rfl (by kernel_rfl) (by kernel_rfl) (by kernel_rfl) (fun _ _ _ h => h) (Or.inl ⟨by rfl, ?_⟩) hHeld ?_
  rotate_left
  · intro wS hSw; obtain ⟨hS0, hS1, hS2, hS3, hS4, hS5⟩ := hSw; go_simp; try with_reducible rfl
  try go_simp
  refine wpAnyH_take (i := 7) (v := ?_) rfl (by kernel_rfl) (by kernel_rfl) (by kernel_rfl) (fun _ _ _ h => h) (Or.inl ⟨by rfl, ?_⟩) hHeld ?_
  rotate_left
  · intro wS hSw; obtain ⟨hS0, hS1, hS2, hS3, hS4, hS5⟩ := hSw; go_simp; try with_reducible rfl
  try go_simp
  refine wpAnyH_take (i := 8) (v := ?_) rfl (by kernel_rfl) (by kernel_rfl) (by kernel_rfl) (fun _ _ _ h => h) (Or.inl ⟨by rfl, ?_⟩) hHeld ?_
  rotate_left
  · intro wS hSw; obtain ⟨hS0, hS1, hS2, hS3, hS4, hS5⟩ := hSw; go_simp; try with_reducible rfl
  try go_simp
  refine wpAnyH_take (i := 9) (v := ?_) rfl (by kernel_rfl) (by kernel_rfl) (by kernel_rfl) (fun _ _ _ h => h) (Or.inl ⟨by rfl, ?_⟩) hHeld ?_
  rotate_left
  · intro wS hSw; obtain ⟨hS0, hS1, hS2, hS3, hS4, hS5⟩ := hSw; go_simp; try with_reducible rfl
  try go_simp
  refine wpAnyH_ready (rs := [10]) (by kernel_rfl) (by simp) ?_
  refine AllReadyH.cons rfl (fun K hK => ?_) AllReadyH.nil
  go_simp
  refine (samelist_yes a2 b2 n2 c2 d2 ys _ (HI1.out.r2.below (by repeat (first | exact Below.refl _ _ | refine below_drawnN ?_ _ | refine below_drawn ?_ | refine below_new ?_ _))) (HJ1.out.r2.below (by repeat (first | exact Below.refl _ _ | refine below_drawnN ?_ _ | refine below_drawn ?_ | refine below_new ?_ _))) (by omega)).mono ?_
  rintro e V2 ⟨rfl, hb⟩
  have HB2 : RowKit.Hid (Below w.heap.size w V2) := Lib.hid (below_on (by exact below_drawn HB1.out) hb)
  have HI2 := Lib.hid ((HI1.out.below (by exact (by repeat (first | exact Below.refl _ _ | refine below_drawnN ?_ _ | refine below_drawn ?_ | refine below_new ?_ _)))).below hb)
  have HJ2 := Lib.hid ((HJ1.out.below (by exact (by repeat (first | exact Below.refl _ _ | refine below_drawnN ?_ _ | refine below_drawn ?_ | refine below_new ?_ _)))).below hb)
  refine hK.out _ _ ?_ (fun hHeld => ?_)
  · exact ⟨below_cell_of hb hHeld.1, below_cell_of hb hHeld.2.1, below_cell_of hb hHeld.2.2.1, below_cell_of hb hHeld.2.2.2.1, below_cell_of hb hHeld.2.2.2.2.1, below_cell_of hb hHeld.2.2.2.2.2⟩
  clear hK K
  try go_simp
  refine wpAnyH_take (i := 11) (v := ?_) rfl (by kernel_rfl) (by kernel_rfl) (by kernel_rfl) (fun _ _ _ h => h) (Or.inl ⟨by rfl, ?_⟩) hHeld ?_
  rotate_left
  · intro wS hSw; obtain ⟨hS0, hS1, hS2, hS3, hS4, hS5⟩ := hSw; go_simp; try with_reducible rfl
  try go_simp
  refine wpAnyH_done (by kernel_rfl) ?_ _
  have z5 := hHeld.1
  clear hHeld
  go_wp2
  rw [rounds_succ]
  go_wp2
  go_ret
  exact ⟨rfl, HB2.out⟩
end Go.Proofs.YtdecclklenaoaaaDoor
