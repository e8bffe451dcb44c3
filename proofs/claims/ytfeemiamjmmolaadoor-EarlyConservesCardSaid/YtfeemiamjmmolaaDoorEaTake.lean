/- Take of package early, at a valid queue. -/
import Derived.Test.YtfeemiamjmmolaaDoorEaPut
namespace Go.Proofs.YtfeemiamjmmolaaDoor
open Go.RowKit

/-- What Take says. -/
def TakeSays (w : World) (A B C room v0 now seed : Int) (p : Ea.Pkt) (is : Bool) (n : Nat) (xs : List Ea.Item) (e : Ending) (V : World) : Prop :=
  ∃ g1 a c, e = .returned (.tuple #[.agg (qList A B C room (some ⟨g1, 0, none⟩) 1 1 v0 now seed).toArray, pktVal p, .bool is, .slice none 0 0, .int .i64 0]) ∧ Below w.heap.size w V ∧ V.cell? ⟨g1, 0, none⟩ = some (.slice a n c) ∧ RdT V a n xs
set_option maxRecDepth 100000 in
set_option maxHeartbeats 4000000 in
theorem take_none (A B C room : Int) (ad : Addr) (lc : Nat) (v0 v7 : Int) (seed : Int) (a : Option Addr) (n c : Nat) (xs : List Ea.Item) (w : World) (hc : w.cell? ad = some (.slice a n c)) (hr : RdQ w a n xs) (hn : (n : Int) ≤ 9223372036854775807) (hq : QOk A B C room v0 v7 xs) (now : Int) (h0 : v7 ≤ now) (h1 : now ≤ 10000000) (hn0 : n = 0) :
    Calls Tryd.prog 11 #[.agg #[.int .i64 2, .int .i64 A, .int .i64 B, .int .i64 C, .int .i64 room, .slice (some ad) 1 lc, .int .i64 v0, .int .i64 0, .int .i64 0, .int .i64 0, .int .i64 0, .int .i64 0, .int .i64 0, .int .i64 v7, .int .u64 seed], .int .i64 now] w (TakeSays w A B C room v0 now seed default false 0 []) := by
  have HN0 := Lib.hid hn0
  clear hn0
  have hlt := World.block_lt_of_cell? _ _ hc
  have HR := Lib.hid hr
  have HQ := Lib.hid hq
  have hn6 : n ≤ 600 := by have := hq.len; have := hq.r1; have := hr.1; omega
  clear hr hq
  go_enter Tryd.func11, Tryd.ntmps11
  go_wp2_with fail
  refine (open_yes A B C room ad lc v0 v7 seed a n c xs _ (below_cell_of (below_new (below_new (below_new (Below.refl _ _) _) _) _) hc) (HR.out.below (below_new (below_new (below_new (Below.refl _ _) _) _) _)) hn HQ.out now h0 h1).mono ?_
  rintro e w2 ⟨g, g1, a2, c2, rfl, hO⟩
  have HQ2 := Lib.hid hO.q
  have HL2 := Lib.hid hO.l
  have HO2 := Lib.hid hO.own
  have HB2 := Lib.hid (below_on (below_new (below_new (below_new (Below.refl w.heap.size w) _) _) _) hO.below)
  have HR2 : RowKit.Hid (Blk w2 (w.heap.size + 1) zeroQ) := Lib.hid (((blk_new_at (w.alloc _) zeroQ.toArray 28 (by simp)).below (below_new (Below.refl _ _) _)).below hO.below)
  have HP2 : RowKit.Hid (Blk w2 (w.heap.size + 1 + 1) (pktList default)) := Lib.hid ((blk_new_at ((w.alloc _).alloc _) (pktList default).toArray 35 (by simp)).below hO.below)
  have hg := hO.hg
  have hg1 := hO.hg1
  have hne := hO.ne
  have hbase : w.heap.size + 1 + 1 < ((((w.alloc (.cells #[.int .i64 2, .int .i64 A, .int .i64 B, .int .i64 C, .int .i64 room, .slice (some ad) 1 lc, .int .i64 v0, .int .i64 0, .int .i64 0, .int .i64 0, .int .i64 0, .int .i64 0, .int .i64 0, .int .i64 v7, .int .u64 seed] 28)).alloc (.cells zeroQ.toArray 28)).alloc (.cells (pktList default).toArray 35))).heap.size := by simp
  simp only [World.size_alloc] at hg hg1
  clear hO
  have q5 := HQ2.out.cell 5 rfl
  have l0 := HL2.out.cell 0 rfl
  rw [HN0.out] at l0
  go_wp2_with (first | (refine wpList_load_mid rfl 28 _ rfl g 0 rfl (qList A B C room (some ⟨g1, 0, none⟩) 1 1 v0 now seed) _ HQ2.out.range Tryd.underlying28 rfl (by kernel_rfl) ?_) | (refine wpList_store_blk rfl 28 _ _ rfl (w.heap.size + 1) zeroQ (qList A B C room (some ⟨g1, 0, none⟩) 1 1 v0 now seed) rfl rfl HR2.out (by kernel_rfl) rfl (qList_one _ _ _ _ _ _ _ _ _ _) ?_; intro V7 hq7 hg7; have HP7 := Lib.hid (HP2.out.kept hg7 (by simp)); have HQ7 := Lib.hid hq7; have HG7 := Lib.hid hg7; clear hq7 hg7) | (refine wpList_store_blk rfl 35 _ _ rfl (w.heap.size + 1 + 1) (pktList default) (pktList default) rfl rfl HP7.out (by kernel_rfl) rfl (pktList_one _) ?_; intro V8 hp8 hg8))
  refine bodyPost_ret (results_cc111 Tryd.results11 rfl rfl (run_loadVar_mid _ (w.heap.size + 1) 0 28 (qList A B C room (some ⟨g1, 0, none⟩) 1 1 v0 now seed) _ (HQ7.out.kept hg8 (by simp)).range Tryd.underlying28 rfl (by kernel_rfl)) (run_loadVar_mid _ (w.heap.size + 1 + 1) 0 35 (pktList default) _ hp8.range Tryd.underlying35 rfl (by kernel_rfl))) rfl ?_
  refine ⟨g1, a2, c2, rfl, below_grown (below_grown HB2.out HG7.out (fun k hk => by injection hk with hk; omega)) hg8 (fun k hk => by injection hk with hk; omega), (((HL2.out.kept HG7.out (by simp; omega)).kept hg8 (by simp; omega)).cell 0 rfl).trans (by rw [HN0.out]), rdT_nil rfl rfl⟩
set_option maxRecDepth 100000 in
set_option maxHeartbeats 4000000 in
theorem take_one (A B C room : Int) (ad : Addr) (lc : Nat) (v0 v7 : Int) (seed : Int) (a : Option Addr) (n c : Nat) (xs : List Ea.Item) (w : World) (hc : w.cell? ad = some (.slice a n c)) (hr : RdQ w a n xs) (hn : (n : Int) ≤ 9223372036854775807) (hq : QOk A B C room v0 v7 xs) (now : Int) (h0 : v7 ≤ now) (h1 : now ≤ 10000000) (hn1 : n = 1) :
    Calls Tryd.prog 11 #[.agg #[.int .i64 2, .int .i64 A, .int .i64 B, .int .i64 C, .int .i64 room, .slice (some ad) 1 lc, .int .i64 v0, .int .i64 0, .int .i64 0, .int .i64 0, .int .i64 0, .int .i64 0, .int .i64 0, .int .i64 v7, .int .u64 seed], .int .i64 now] w (TakeSays w A B C room v0 now seed (xs.getD 0 default).p true (n - 1) (xs.drop 1)) := by
  have HN1 := Lib.hid hn1
  have hn2 : n ≤ 1 := by omega
  have hn3 : 1 ≤ n := by omega
  clear hn1
  have hlt := World.block_lt_of_cell? _ _ hc
  have HR := Lib.hid hr
  have HQ := Lib.hid hq
  have hn6 : n ≤ 600 := by have := hq.len; have := hq.r1; have := hr.1; omega
  clear hr hq
  go_enter Tryd.func11, Tryd.ntmps11
  go_wp2_with fail
  refine (open_yes A B C room ad lc v0 v7 seed a n c xs _ (below_cell_of (below_new (below_new (below_new (Below.refl _ _) _) _) _) hc) (HR.out.below (below_new (below_new (below_new (Below.refl _ _) _) _) _)) hn HQ.out now h0 h1).mono ?_
  rintro e w2 ⟨g, g1, a2, c2, rfl, hO⟩
  have HQ2 := Lib.hid hO.q
  have HL2 := Lib.hid hO.l
  have HO2 := Lib.hid hO.own
  have HB2 := Lib.hid (below_on (below_new (below_new (below_new (Below.refl w.heap.size w) _) _) _) hO.below)
  have HR2 : RowKit.Hid (Blk w2 (w.heap.size + 1) zeroQ) := Lib.hid (((blk_new_at (w.alloc _) zeroQ.toArray 28 (by simp)).below (below_new (Below.refl _ _) _)).below hO.below)
  have HP2 : RowKit.Hid (Blk w2 (w.heap.size + 1 + 1) (pktList default)) := Lib.hid ((blk_new_at ((w.alloc _).alloc _) (pktList default).toArray 35 (by simp)).below hO.below)
  have hg := hO.hg
  have hg1 := hO.hg1
  have hne := hO.ne
  have hbase : w.heap.size + 1 + 1 < ((((w.alloc (.cells #[.int .i64 2, .int .i64 A, .int .i64 B, .int .i64 C, .int .i64 room, .slice (some ad) 1 lc, .int .i64 v0, .int .i64 0, .int .i64 0, .int .i64 0, .int .i64 0, .int .i64 0, .int .i64 0, .int .i64 v7, .int .u64 seed] 28)).alloc (.cells zeroQ.toArray 28)).alloc (.cells (pktList default).toArray 35))).heap.size := by simp
  simp only [World.size_alloc] at hg hg1
  clear hO
  have q5 := HQ2.out.cell 5 rfl
  have l0 := HL2.out.cell 0 rfl
  obtain ⟨gl, ea, hgl, hgl2⟩ := HO2.out.head (by omega)
  simp only [World.size_alloc] at hgl
  subst ea
  have hcap := HO2.out.cap
  have hnot : ((n : Int) == 0) = false := by simp; omega
  have hn1 : (1 : Int) ≤ n := by omega
  have h0n : 0 < n := by omega
  go_wp2
  refine wp_region_still_tail 11 (by kernel_rfl) (by kernel_rfl) ?_
  simp only [List.take_succ_cons, List.take_zero, List.drop_succ_cons, List.drop_zero]
  change wpStill _ _ (World.drew _) _ _ _
  repeat still_step
  refine wpStill_nil ?_
  change wpList _ _ _ _ _ (World.drew _)
  have f0 := HL2.out.frozen ⟨g1, 0, none⟩ rfl
  go_wp2
  have HQ3 := Lib.hid (HQ2.out.kept (grown_set w2 ⟨g1, 0, none⟩ (.slice (some ⟨gl, 0, none⟩) (0) (0))) (by simp; exact hne))
  have HR3 := Lib.hid (HR2.out.kept (grown_set w2 ⟨g1, 0, none⟩ (.slice (some ⟨gl, 0, none⟩) (0) (0))) (by simp; omega))
  have HP3 := Lib.hid (HP2.out.kept (grown_set w2 ⟨g1, 0, none⟩ (.slice (some ⟨gl, 0, none⟩) (0) (0))) (by simp; omega))
  have HL3 : RowKit.Hid (Blk (w2.setCell ⟨g1, 0, none⟩ (.slice (some ⟨gl, 0, none⟩) (0) (0))) g1 [(.slice (some ⟨gl, 0, none⟩) (0) (0))]) := Lib.hid (HL2.out.set 0 (.slice (some ⟨gl, 0, none⟩) (0) (0)))
  have HO3 := Lib.hid (HO2.out.kept' (grown_set w2 ⟨g1, 0, none⟩ (.slice (some ⟨gl, 0, none⟩) (0) (0))) (j := 0) (by omega) l0)
  have HB3 := Lib.hid (below_set HB2.out (p := ⟨g1, 0, none⟩) (by simp; omega) (.slice (some ⟨gl, 0, none⟩) (0) (0)))
  have HK3 : RowKit.Hid (World.rangeAt (w2.setCell ⟨g1, 0, none⟩ (.slice (some ⟨gl, 0, none⟩) (0) (0))) gl 0 (pktList (xs.getD 0 default).p)) := Lib.hid (fun j v hv => by
    obtain ⟨b, o, e, hr⟩ := HO3.out.rd.2 0 (by omega)
    injection e with e
    injection e with e1 e2
    subst e1 e2
    exact hr j v (pkt_of_item hv))
  clear HQ2 HR2 HP2 HL2 HO2 HB2 q5 l0 f0
  refine wp_region_held_drew (S := (fun V => V.rangeAt g 0 (qList A B C room (some ⟨g1, 0, none⟩) 1 1 v0 now seed) ∧ V.rangeAt gl 0 (pktList (xs.getD 0 default).p))) (by kernel_rfl) ?_ (fun hHeld => ?_)
  · exact ⟨HQ3.out.range, HK3.out⟩
  refine wpAnyH_take (i := 0) (v := ?_) rfl (by kernel_rfl) (by kernel_rfl) (by kernel_rfl) (fun _ _ _ h => h) (Or.inl ⟨by rfl, ?_⟩) hHeld ?_
  rotate_left
  · intro wS hSw; obtain ⟨hS0, hS1⟩ := hSw; go_simp; try with_reducible rfl
  try go_simp
  refine wpAnyH_take (i := 1) (v := ?_) rfl (by kernel_rfl) (by kernel_rfl) (by kernel_rfl) (fun _ _ _ h => h) (Or.inl ⟨by rfl, ?_⟩) hHeld ?_
  rotate_left
  · intro wS hSw; obtain ⟨hS0, hS1⟩ := hSw; go_simp; try with_reducible rfl
  try go_simp
  refine wpAnyH_take (i := 2) (v := ?_) rfl (by kernel_rfl) (by kernel_rfl) (by kernel_rfl) (fun _ _ _ h => h) (Or.inl ⟨by rfl, ?_⟩) hHeld ?_
  rotate_left
  · intro wS hSw; obtain ⟨hS0, hS1⟩ := hSw; go_simp; try with_reducible rfl
  try go_simp
  refine wpAnyH_take (i := 3) (v := (.agg (qList A B C room (some ⟨g1, 0, none⟩) 1 1 v0 now seed).toArray)) rfl (by kernel_rfl) (by kernel_rfl) (by kernel_rfl) (fun _ _ _ h => h) (yieldsIf_load_mid (by rfl) 28 _ rfl g 0 rfl (qList A B C room (some ⟨g1, 0, none⟩) 1 1 v0 now seed) _ (fun _ h => h.1) Tryd.underlying28 rfl (by kernel_rfl)) hHeld ?_
  try go_simp
  refine wpAnyH_take (i := 4) (v := ?_) rfl (by kernel_rfl) (by kernel_rfl) (by kernel_rfl) (fun _ _ _ h => h) (Or.inl ⟨by rfl, ?_⟩) hHeld ?_
  rotate_left
  · intro wS hSw; obtain ⟨hS0, hS1⟩ := hSw; go_simp; try with_reducible rfl
  try go_simp
  refine wpAnyH_take (i := 5) (v := ?_) rfl (by kernel_rfl) (by kernel_rfl) (by kernel_rfl) (fun _ _ _ h => h) (Or.inl ⟨by rfl, ?_⟩) hHeld ?_
  rotate_left
  · intro wS hSw; obtain ⟨hS0, hS1⟩ := hSw; go_simp; try with_reducible rfl
  try go_simp
  refine wpAnyH_take (i := 6) (v := ?_) rfl (by kernel_rfl) (by kernel_rfl) (by kernel_rfl) (fun _ _ _ h => h) (Or.inl ⟨by rfl, ?_⟩) hHeld ?_
  rotate_left
  · intro wS hSw; obtain ⟨hS0, hS1⟩ := hSw; go_simp; try with_reducible rfl
  try go_simp
  refine wpAnyH_take (i := 7) (v := (.agg (pktList (xs.getD 0 default).p).toArray)) rfl (by kernel_rfl) (by kernel_rfl) (by kernel_rfl) (fun _ _ _ h => h) (yieldsIf_load_mid (by rfl) 35 _ rfl gl 0 rfl (pktList (xs.getD 0 default).p) _ (fun _ h => h.2) Tryd.underlying35 rfl (by kernel_rfl)) hHeld ?_
  try go_simp
  refine wpAnyH_ready (rs := [8]) (by kernel_rfl) (by simp) ?_
  refine AllReadyH.cons rfl (fun K hK => ?_) AllReadyH.nil
  refine ready_store_blk (by rfl) _ 28 _ _ rfl (w.heap.size + 1) zeroQ (qList A B C room (some ⟨g1, 0, none⟩) 1 1 v0 now seed) rfl rfl (show Blk ((w2.setCell ⟨g1, 0, none⟩ (.slice (some ⟨gl, 0, none⟩) (0) (0))).drew.drew) (w.heap.size + 1) zeroQ from HR3.out) (by kernel_rfl) rfl (qList_one _ _ _ _ _ _ _ _ _ _) ?_
  intro V7 hq7 hg7
  have hp7 := (show Blk ((w2.setCell ⟨g1, 0, none⟩ (.slice (some ⟨gl, 0, none⟩) (0) (0))).drew.drew) (w.heap.size + 1 + 1) (pktList default) from HP3.out).kept hg7 (by simp)
  refine hK.out _ _ ?_ (fun hHeld => ?_)
  · exact ⟨rangeAt_kept hHeld.1 hg7 (by simp; omega), rangeAt_kept hHeld.2 hg7 (by simp; omega)⟩
  clear hK K
  try go_simp
  refine wpAnyH_ready (rs := [9]) (by kernel_rfl) (by simp) ?_
  refine AllReadyH.cons rfl (fun K hK => ?_) AllReadyH.nil
  refine ready_store_blk (by rfl) _ 35 _ _ rfl (w.heap.size + 1 + 1) (pktList default) (pktList (xs.getD 0 default).p) rfl rfl hp7 (by kernel_rfl) rfl (pktList_one _) ?_
  intro V8 hp8 hg8
  refine hK.out _ _ ?_ (fun hHeld => ?_)
  · exact ⟨rangeAt_kept hHeld.1 hg8 (by simp; omega), rangeAt_kept hHeld.2 hg8 (by simp; omega)⟩
  clear hK K
  try go_simp
  refine wpAnyH_take (i := 10) (v := ?_) rfl (by kernel_rfl) (by kernel_rfl) (by kernel_rfl) (fun _ _ _ h => h) (Or.inl ⟨by rfl, ?_⟩) hHeld ?_
  rotate_left
  · intro wS hSw; obtain ⟨hS0, hS1⟩ := hSw; go_simp; try with_reducible rfl
  try go_simp
  refine wpAnyH_take (i := 11) (v := ?_) rfl (by kernel_rfl) (by kernel_rfl) (by kernel_rfl) (fun _ _ _ h => h) (Or.inl ⟨by rfl, ?_⟩) hHeld ?_
  rotate_left
  · intro wS hSw; obtain ⟨hS0, hS1⟩ := hSw; go_simp; try with_reducible rfl
  try go_simp
  refine wpAnyH_take (i := 12) (v := ?_) rfl (by kernel_rfl) (by kernel_rfl) (by kernel_rfl) (fun _ _ _ h => h) (Or.inl ⟨by rfl, ?_⟩) hHeld ?_
  rotate_left
  · intro wS hSw; obtain ⟨hS0, hS1⟩ := hSw; go_simp; try with_reducible rfl
  try go_simp
  refine wpAnyH_done (by kernel_rfl) ?_ _
  go_wp2
  refine bodyPost_ret (results_cc111 Tryd.results11 rfl rfl (run_loadVar_mid _ (w.heap.size + 1) 0 28 (qList A B C room (some ⟨g1, 0, none⟩) 1 1 v0 now seed) _ (hq7.kept hg8 (by simp)).range Tryd.underlying28 rfl (by kernel_rfl)) (run_loadVar_mid _ (w.heap.size + 1 + 1) 0 35 (pktList (xs.getD 0 default).p) _ hp8.range Tryd.underlying35 rfl (by kernel_rfl))) rfl ?_
  have hO8 := ((HO3.out.kept (show (w2.setCell ⟨g1, 0, none⟩ (.slice (some ⟨gl, 0, none⟩) (0) (0))).grownBy V7 (some (w.heap.size + 1)) from ⟨hg7.os, hg7.tape, hg7.output, hg7.size, hg7.block⟩) (fun ad e _ h => by injection e with e; subst e; injection h with h; simp only at h; omega)).kept hg8 (fun ad e _ h => by injection e with e; subst e; injection h with h; simp only at h; omega))
  exact ⟨g1, some ⟨gl, 0, none⟩, 0, rfl, below_grown (below_grown HB3.out (show (w2.setCell ⟨g1, 0, none⟩ (.slice (some ⟨gl, 0, none⟩) (0) (0))).grownBy V7 (some (w.heap.size + 1)) from ⟨hg7.os, hg7.tape, hg7.output, hg7.size, hg7.block⟩) (fun k hk => by injection hk with hk; omega)) hg8 (fun k hk => by injection hk with hk; omega), ((((show Blk ((w2.setCell ⟨g1, 0, none⟩ (.slice (some ⟨gl, 0, none⟩) (0) (0))).drew.drew) g1 [(.slice (some ⟨gl, 0, none⟩) (0) (0))] from HL3.out).kept hg7 (by simp; omega)).kept hg8 (by simp; omega)).cell 0 rfl).trans (by rw [HN1.out]), rdT_nil (by omega) (by rw [List.length_drop, hO8.rd.1])⟩
set_option maxRecDepth 100000 in
set_option maxHeartbeats 4000000 in
theorem take_two (A B C room : Int) (ad : Addr) (lc : Nat) (v0 v7 : Int) (seed : Int) (a : Option Addr) (n c : Nat) (xs : List Ea.Item) (w : World) (hc : w.cell? ad = some (.slice a n c)) (hr : RdQ w a n xs) (hn : (n : Int) ≤ 9223372036854775807) (hq : QOk A B C room v0 v7 xs) (now : Int) (h0 : v7 ≤ now) (h1 : now ≤ 10000000) (hn2 : 2 ≤ n) :
    Calls Tryd.prog 11 #[.agg #[.int .i64 2, .int .i64 A, .int .i64 B, .int .i64 C, .int .i64 room, .slice (some ad) 1 lc, .int .i64 v0, .int .i64 0, .int .i64 0, .int .i64 0, .int .i64 0, .int .i64 0, .int .i64 0, .int .i64 v7, .int .u64 seed], .int .i64 now] w (TakeSays w A B C room v0 now seed (xs.getD 0 default).p true (n - 1) (xs.drop 1)) := by
  have hlt := World.block_lt_of_cell? _ _ hc
  have HR := Lib.hid hr
  have HQ := Lib.hid hq
  have hn6 : n ≤ 600 := by have := hq.len; have := hq.r1; have := hr.1; omega
  clear hr hq
  go_enter Tryd.func11, Tryd.ntmps11
  go_wp2_with fail
  refine (open_yes A B C room ad lc v0 v7 seed a n c xs _ (below_cell_of (below_new (below_new (below_new (Below.refl _ _) _) _) _) hc) (HR.out.below (below_new (below_new (below_new (Below.refl _ _) _) _) _)) hn HQ.out now h0 h1).mono ?_
  rintro e w2 ⟨g, g1, a2, c2, rfl, hO⟩
  have HQ2 := Lib.hid hO.q
  have HL2 := Lib.hid hO.l
  have HO2 := Lib.hid hO.own
  have HB2 := Lib.hid (below_on (below_new (below_new (below_new (Below.refl w.heap.size w) _) _) _) hO.below)
  have HR2 : RowKit.Hid (Blk w2 (w.heap.size + 1) zeroQ) := Lib.hid (((blk_new_at (w.alloc _) zeroQ.toArray 28 (by simp)).below (below_new (Below.refl _ _) _)).below hO.below)
  have HP2 : RowKit.Hid (Blk w2 (w.heap.size + 1 + 1) (pktList default)) := Lib.hid ((blk_new_at ((w.alloc _).alloc _) (pktList default).toArray 35 (by simp)).below hO.below)
  have hg := hO.hg
  have hg1 := hO.hg1
  have hne := hO.ne
  have hbase : w.heap.size + 1 + 1 < ((((w.alloc (.cells #[.int .i64 2, .int .i64 A, .int .i64 B, .int .i64 C, .int .i64 room, .slice (some ad) 1 lc, .int .i64 v0, .int .i64 0, .int .i64 0, .int .i64 0, .int .i64 0, .int .i64 0, .int .i64 0, .int .i64 v7, .int .u64 seed] 28)).alloc (.cells zeroQ.toArray 28)).alloc (.cells (pktList default).toArray 35))).heap.size := by simp
  simp only [World.size_alloc] at hg hg1
  clear hO
  have q5 := HQ2.out.cell 5 rfl
  have l0 := HL2.out.cell 0 rfl
  obtain ⟨gl, ea, hgl, hgl2⟩ := HO2.out.head (by omega)
  simp only [World.size_alloc] at hgl
  subst ea
  have hcap := HO2.out.cap
  have hnot : ((n : Int) == 0) = false := by simp; omega
  have hn1 : (1 : Int) ≤ n := by omega
  have h0n : 0 < n := by omega
  go_wp2
  refine wp_region_still_tail 11 (by kernel_rfl) (by kernel_rfl) ?_
  simp only [List.take_succ_cons, List.take_zero, List.drop_succ_cons, List.drop_zero]
  change wpStill _ _ (World.drew _) _ _ _
  repeat still_step
  refine wpStill_nil ?_
  change wpList _ _ _ _ _ (World.drew _)
  have f0 := HL2.out.frozen ⟨g1, 0, none⟩ rfl
  go_wp2
  have HQ3 := Lib.hid (HQ2.out.kept (grown_set w2 ⟨g1, 0, none⟩ (.slice (some ⟨gl, 9, none⟩) (n - 1) (n - 1))) (by simp; exact hne))
  have HR3 := Lib.hid (HR2.out.kept (grown_set w2 ⟨g1, 0, none⟩ (.slice (some ⟨gl, 9, none⟩) (n - 1) (n - 1))) (by simp; omega))
  have HP3 := Lib.hid (HP2.out.kept (grown_set w2 ⟨g1, 0, none⟩ (.slice (some ⟨gl, 9, none⟩) (n - 1) (n - 1))) (by simp; omega))
  have HL3 : RowKit.Hid (Blk (w2.setCell ⟨g1, 0, none⟩ (.slice (some ⟨gl, 9, none⟩) (n - 1) (n - 1))) g1 [(.slice (some ⟨gl, 9, none⟩) (n - 1) (n - 1))]) := Lib.hid (HL2.out.set 0 (.slice (some ⟨gl, 9, none⟩) (n - 1) (n - 1)))
  have HO3 := Lib.hid (HO2.out.kept' (grown_set w2 ⟨g1, 0, none⟩ (.slice (some ⟨gl, 9, none⟩) (n - 1) (n - 1))) (j := 0) (by omega) l0)
  have HB3 := Lib.hid (below_set HB2.out (p := ⟨g1, 0, none⟩) (by simp; omega) (.slice (some ⟨gl, 9, none⟩) (n - 1) (n - 1)))
  have HK3 : RowKit.Hid (World.rangeAt (w2.setCell ⟨g1, 0, none⟩ (.slice (some ⟨gl, 9, none⟩) (n - 1) (n - 1))) gl 0 (pktList (xs.getD 0 default).p)) := Lib.hid (fun j v hv => by
    obtain ⟨b, o, e, hr⟩ := HO3.out.rd.2 0 (by omega)
    injection e with e
    injection e with e1 e2
    subst e1 e2
    exact hr j v (pkt_of_item hv))
  clear HQ2 HR2 HP2 HL2 HO2 HB2 q5 l0 f0
  refine wp_region_held_drew (S := (fun V => V.rangeAt g 0 (qList A B C room (some ⟨g1, 0, none⟩) 1 1 v0 now seed) ∧ V.rangeAt gl 0 (pktList (xs.getD 0 default).p))) (by kernel_rfl) ?_ (fun hHeld => ?_)
  · exact ⟨HQ3.out.range, HK3.out⟩
  refine wpAnyH_take (i := 0) (v := ?_) rfl (by kernel_rfl) (by kernel_rfl) (by kernel_rfl) (fun _ _ _ h => h) (Or.inl ⟨by rfl, ?_⟩) hHeld ?_
  rotate_left
  · intro wS hSw; obtain ⟨hS0, hS1⟩ := hSw; go_simp; try with_reducible rfl
  try go_simp
  refine wpAnyH_take (i := 1) (v := ?_) rfl (by kernel_rfl) (by kernel_rfl) (by kernel_rfl) (fun _ _ _ h => h) (Or.inl ⟨by rfl, ?_⟩) hHeld ?_
  rotate_left
  · intro wS hSw; obtain ⟨hS0, hS1⟩ := hSw; go_simp; try with_reducible rfl
  try go_simp
  refine wpAnyH_take (i := 2) (v := ?_) rfl (by kernel_rfl) (by kernel_rfl) (by kernel_rfl) (fun _ _ _ h => h) (Or.inl ⟨by rfl, ?_⟩) hHeld ?_
  rotate_left
  · intro wS hSw; obtain ⟨hS0, hS1⟩ := hSw; go_simp; try with_reducible rfl
  try go_simp
  refine wpAnyH_take (i := 3) (v := (.agg (qList A B C room (some ⟨g1, 0, none⟩) 1 1 v0 now seed).toArray)) rfl (by kernel_rfl) (by kernel_rfl) (by kernel_rfl) (fun _ _ _ h => h) (yieldsIf_load_mid (by rfl) 28 _ rfl g 0 rfl (qList A B C room (some ⟨g1, 0, none⟩) 1 1 v0 now seed) _ (fun _ h => h.1) Tryd.underlying28 rfl (by kernel_rfl)) hHeld ?_
  try go_simp
  refine wpAnyH_take (i := 4) (v := ?_) rfl (by kernel_rfl) (by kernel_rfl) (by kernel_rfl) (fun _ _ _ h => h) (Or.inl ⟨by rfl, ?_⟩) hHeld ?_
  rotate_left
  · intro wS hSw; obtain ⟨hS0, hS1⟩ := hSw; go_simp; try with_reducible rfl
  try go_simp
  refine wpAnyH_take (i := 5) (v := ?_) rfl (by kernel_rfl) (by kernel_rfl) (by kernel_rfl) (fun _ _ _ h => h) (Or.inl ⟨by rfl, ?_⟩) hHeld ?_
  rotate_left
  · intro wS hSw; obtain ⟨hS0, hS1⟩ := hSw; go_simp; try with_reducible rfl
  try go_simp
  refine wpAnyH_take (i := 6) (v := ?_) rfl (by kernel_rfl) (by kernel_rfl) (by kernel_rfl) (fun _ _ _ h => h) (Or.inl ⟨by rfl, ?_⟩) hHeld ?_
  rotate_left
  · intro wS hSw; obtain ⟨hS0, hS1⟩ := hSw; go_simp; try with_reducible rfl
  try go_simp
  refine wpAnyH_take (i := 7) (v := (.agg (pktList (xs.getD 0 default).p).toArray)) rfl (by kernel_rfl) (by kernel_rfl) (by kernel_rfl) (fun _ _ _ h => h) (yieldsIf_load_mid (by rfl) 35 _ rfl gl 0 rfl (pktList (xs.getD 0 default).p) _ (fun _ h => h.2) Tryd.underlying35 rfl (by kernel_rfl)) hHeld ?_
  try go_simp
  refine wpAnyH_ready (rs := [8]) (by kernel_rfl) (by simp) ?_
  refine AllReadyH.cons rfl (fun K hK => ?_) AllReadyH.nil
  refine ready_store_blk (by rfl) _ 28 _ _ rfl (w.heap.size + 1) zeroQ (qList A B C room (some ⟨g1, 0, none⟩) 1 1 v0 now seed) rfl rfl (show Blk ((w2.setCell ⟨g1, 0, none⟩ (.slice (some ⟨gl, 9, none⟩) (n - 1) (n - 1))).drew.drew) (w.heap.size + 1) zeroQ from HR3.out) (by kernel_rfl) rfl (qList_one _ _ _ _ _ _ _ _ _ _) ?_
  intro V7 hq7 hg7
  have hp7 := (show Blk ((w2.setCell ⟨g1, 0, none⟩ (.slice (some ⟨gl, 9, none⟩) (n - 1) (n - 1))).drew.drew) (w.heap.size + 1 + 1) (pktList default) from HP3.out).kept hg7 (by simp)
  refine hK.out _ _ ?_ (fun hHeld => ?_)
  · exact ⟨rangeAt_kept hHeld.1 hg7 (by simp; omega), rangeAt_kept hHeld.2 hg7 (by simp; omega)⟩
  clear hK K
  try go_simp
  refine wpAnyH_ready (rs := [9]) (by kernel_rfl) (by simp) ?_
  refine AllReadyH.cons rfl (fun K hK => ?_) AllReadyH.nil
  refine ready_store_blk (by rfl) _ 35 _ _ rfl (w.heap.size + 1 + 1) (pktList default) (pktList (xs.getD 0 default).p) rfl rfl hp7 (by kernel_rfl) rfl (pktList_one _) ?_
  intro V8 hp8 hg8
  refine hK.out _ _ ?_ (fun hHeld => ?_)
  · exact ⟨rangeAt_kept hHeld.1 hg8 (by simp; omega), rangeAt_kept hHeld.2 hg8 (by simp; omega)⟩
  clear hK K
  try go_simp
  refine wpAnyH_take (i := 10) (v := ?_) rfl (by kernel_rfl) (by kernel_rfl) (by kernel_rfl) (fun _ _ _ h => h) (Or.inl ⟨by rfl, ?_⟩) hHeld ?_
  rotate_left
  · intro wS hSw; obtain ⟨hS0, hS1⟩ := hSw; go_simp; try with_reducible rfl
  try go_simp
  refine wpAnyH_take (i := 11) (v := ?_) rfl (by kernel_rfl) (by kernel_rfl) (by kernel_rfl) (fun _ _ _ h => h) (Or.inl ⟨by rfl, ?_⟩) hHeld ?_
  rotate_left
  · intro wS hSw; obtain ⟨hS0, hS1⟩ := hSw; go_simp; try with_reducible rfl
  try go_simp
  refine wpAnyH_take (i := 12) (v := ?_) rfl (by kernel_rfl) (by kernel_rfl) (by kernel_rfl) (fun _ _ _ h => h) (Or.inl ⟨by rfl, ?_⟩) hHeld ?_
  rotate_left
  · intro wS hSw; obtain ⟨hS0, hS1⟩ := hSw; go_simp; try with_reducible rfl
  try go_simp
  refine wpAnyH_done (by kernel_rfl) ?_ _
  go_wp2
  refine bodyPost_ret (results_cc111 Tryd.results11 rfl rfl (run_loadVar_mid _ (w.heap.size + 1) 0 28 (qList A B C room (some ⟨g1, 0, none⟩) 1 1 v0 now seed) _ (hq7.kept hg8 (by simp)).range Tryd.underlying28 rfl (by kernel_rfl)) (run_loadVar_mid _ (w.heap.size + 1 + 1) 0 35 (pktList (xs.getD 0 default).p) _ hp8.range Tryd.underlying35 rfl (by kernel_rfl))) rfl ?_
  have hO8 := ((HO3.out.kept (show (w2.setCell ⟨g1, 0, none⟩ (.slice (some ⟨gl, 9, none⟩) (n - 1) (n - 1))).grownBy V7 (some (w.heap.size + 1)) from ⟨hg7.os, hg7.tape, hg7.output, hg7.size, hg7.block⟩) (fun ad e _ h => by injection e with e; subst e; injection h with h; simp only at h; omega)).kept hg8 (fun ad e _ h => by injection e with e; subst e; injection h with h; simp only at h; omega))
  exact ⟨g1, some ⟨gl, 9, none⟩, n - 1, rfl, below_grown (below_grown HB3.out (show (w2.setCell ⟨g1, 0, none⟩ (.slice (some ⟨gl, 9, none⟩) (n - 1) (n - 1))).grownBy V7 (some (w.heap.size + 1)) from ⟨hg7.os, hg7.tape, hg7.output, hg7.size, hg7.block⟩) (fun k hk => by injection hk with hk; omega)) hg8 (fun k hk => by injection hk with hk; omega), ((((show Blk ((w2.setCell ⟨g1, 0, none⟩ (.slice (some ⟨gl, 9, none⟩) (n - 1) (n - 1))).drew.drew) g1 [(.slice (some ⟨gl, 9, none⟩) (n - 1) (n - 1))] from HL3.out).kept hg7 (by simp; omega)).kept hg8 (by simp; omega)).cell 0 rfl), ⟨by have h := hO8.rd; rw [show n = n - 1 + 1 by omega] at h; exact h.drop, fun b e _ => by injection e with e; subst e; exact hO8.rdT.2 ⟨gl, 0, none⟩ rfl (by omega)⟩⟩
end Go.Proofs.YtfeemiamjmmolaaDoor
