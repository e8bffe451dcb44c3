/- open of package dual, at a valid queue. -/
import Derived.Test.YtdecclklenaoaaaDoorDuValidT
import Derived.Test.YtdecclklenaoaaaDoorDuOwn
namespace Go.Proofs.YtdecclklenaoaaaDoor
open Go.RowKit

/-- The cells of a queue of package dual. -/
abbrev dqList (A B room : Int) (la : Option Addr) (lc : Nat) (v0 v7 : Int) (s : Nat) : List Value := [.int .i64 6, .int .i64 A, .int .i64 B, .int .i64 0, .int .i64 room, .slice la 2 lc, .int .i64 v0, .int .i64 0, .int .i64 0, .int .i64 0, .int .i64 0, .int .i64 0, .int .i64 0, .int .i64 v7, .int .u64 (s : Int)]
abbrev pairList (A B room : Int) (la : Option Addr) (lc : Nat) (v0 v7 : Int) (s : Nat) (l1 l2 : Value) (now : Int) (dr : Value) : List Value := dqList A B room la lc v0 v7 s ++ [l1, l2, .int .i64 now, dr]
theorem owns_mono {w : World} {b b' e n : Nat} {v : Value} {xs : List Value} (h : w.ownsRow b e 9 v n xs) (hb : b' ≤ b) : w.ownsRow b' e 9 v n xs :=
  ⟨h.1, h.2.imp (fun h => h) (fun ⟨g, cap, cur, h1, h2, h3⟩ => ⟨g, cap, cur, h1, Nat.le_trans hb h2, h3⟩)⟩
/-- A pair that open has made: a block of its own, and two lists of its own. -/
def DOpenSays (w : World) (A B room : Int) (la : Option Addr) (lc : Nat) (v0 now : Int) (s n1 n2 : Nat) (xs ys : List Ea.Item) (e : Ending) (W : World) : Prop :=
  ∃ g g1 g2, e = .returned (.tuple #[.pointer (some ⟨g, 0, none⟩), .int .i64 0]) ∧ Below w.heap.size w W ∧ Blk W g (pairList A B room la lc v0 now s (.slice (some ⟨g1, 0, none⟩) n1 n1) (.slice (some ⟨g2, 0, none⟩) n2 n2) now (.slice none 0 0)) ∧
    W.ownsRow w.heap.size 51 9 (.slice (some ⟨g1, 0, none⟩) n1 n1) n1 (flatQ xs) ∧ W.ownsRow w.heap.size 51 9 (.slice (some ⟨g2, 0, none⟩) n2 n2) n2 (flatQ ys) ∧ w.heap.size ≤ g ∧ g1 ≠ g ∧ g2 ≠ g ∧ g1 ≠ g2
theorem dvalid_yes (A B room : Int) (ab ao : Nat) (lc : Nat) (v0 v7 : Int) (s : Nat) (w : World) (a1 : Option Addr) (n1 c1 : Nat) (xs : List Ea.Item) (a2 : Option Addr) (n2 c2 : Nat) (ys : List Ea.Item) (hc1 : w.cell? ⟨ab, ao, none⟩ = some (.slice a1 n1 c1)) (hc2 : w.cell? ⟨ab, ao + 1, none⟩ = some (.slice a2 n2 c2)) (hr1 : RdQ w a1 n1 xs) (hr2 : RdQ w a2 n2 ys) (hq : Du.Ok A B room v0 v7 xs ys) :
    Calls Tryd.prog 18 #[.agg #[.int .i64 6, .int .i64 A, .int .i64 B, .int .i64 0, .int .i64 room, .slice (some ⟨ab, ao, none⟩) 2 lc, .int .i64 v0, .int .i64 0, .int .i64 0, .int .i64 0, .int .i64 0, .int .i64 0, .int .i64 0, .int .i64 v7, .int .u64 (s : Int)]] w fun e V => e = .returned (.bool true) ∧ Below w.heap.size w V := by
  have hs := hq.short
  have h1 := hr1.1
  have h2 := hr2.1
  refine (dvalid_two A B room ab ao lc v0 0 0 0 0 0 0 v7 s w a1 n1 c1 xs a2 n2 c2 ys hc1 hc2 hr1 hr2 (by omega) (by omega) hq.a0 hq.a1 hq.b0 hq.b1 hq.r0 hq.r1).mono ?_
  rintro e V ⟨⟨b, rfl, hb⟩, hV⟩
  have hl := hq.len
  obtain rfl : b = true := hb.2 ⟨rfl, rfl, rfl, rfl, rfl, rfl, ⟨hq.m0, hq.m1⟩, ⟨hq.t0, hq.t1⟩, by omega, (listD_iff hq.t1).2 ⟨hq.lx, hq.ax⟩, (listD_iff hq.t1).2 ⟨hq.ly, hq.ay⟩⟩
  exact ⟨rfl, hV⟩
set_option maxRecDepth 100000 in
set_option maxHeartbeats 4000000 in
theorem dopen_yes (A B room : Int) (ab ao : Nat) (lc : Nat) (v0 v7 : Int) (s : Nat) (w : World) (a1 : Option Addr) (n1 c1 : Nat) (xs : List Ea.Item) (a2 : Option Addr) (n2 c2 : Nat) (ys : List Ea.Item) (hc1 : w.cell? ⟨ab, ao, none⟩ = some (.slice a1 n1 c1)) (hc2 : w.cell? ⟨ab, ao + 1, none⟩ = some (.slice a2 n2 c2)) (hr1 : RdQ w a1 n1 xs) (hr2 : RdQ w a2 n2 ys) (hq : Du.Ok A B room v0 v7 xs ys) (now : Int) (h0 : v7 ≤ now) (h1 : now ≤ 10000000) :
    Calls Tryd.prog 30 #[.agg #[.int .i64 6, .int .i64 A, .int .i64 B, .int .i64 0, .int .i64 room, .slice (some ⟨ab, ao, none⟩) 2 lc, .int .i64 v0, .int .i64 0, .int .i64 0, .int .i64 0, .int .i64 0, .int .i64 0, .int .i64 0, .int .i64 v7, .int .u64 (s : Int)], .int .i64 now] w fun e W => DOpenSays w A B room (some ⟨ab, ao, none⟩) lc v0 now s n1 n2 xs ys e W := by
  have hlt := World.block_lt_of_cell? _ _ hc1
  simp only at hlt
  have HC1 := Lib.hid hc1
  have HC2 := Lib.hid hc2
  have HR1 := Lib.hid hr1
  have HR2 := Lib.hid hr2
  have HQ := Lib.hid hq
  have hn1 : n1 ≤ 600 := by have := hq.short; have := hr1.1; omega
  have hn2 : n2 ≤ 600 := by have := hq.short; have := hr2.1; omega
  have hnow : 0 ≤ now := by have := hq.t0; omega
  have hb : decide (now < v7) = false := decide_eq_false (by omega)
  clear hr1 hr2 hq hc1 hc2
  go_enter Tryd.func30, Tryd.ntmps30
  go_wp2_with fail
  refine (dvalid_yes A B room ab ao lc v0 v7 s _ a1 n1 c1 xs a2 n2 c2 ys (below_cell_of (below_new (Below.refl _ _) _) HC1.out) (below_cell_of (below_new (Below.refl _ _) _) HC2.out) (HR1.out.below (below_new (Below.refl _ _) _)) (HR2.out.below (below_new (Below.refl _ _) _)) HQ.out).mono ?_
  rintro e w1 ⟨rfl, hb1⟩
  have hB1 : Below w.heap.size w w1 := below_on (below_new (Below.refl _ _) _) hb1
  have hq1 : Blk w1 w.heap.size (dqList A B room (some ⟨ab, ao, none⟩) lc v0 v7 s) := (Blk.new w [.int .i64 6, .int .i64 A, .int .i64 B, .int .i64 0, .int .i64 room, .slice (some ⟨ab, ao, none⟩) 2 lc, .int .i64 v0, .int .i64 0, .int .i64 0, .int .i64 0, .int .i64 0, .int .i64 0, .int .i64 0, .int .i64 v7, .int .u64 (s : Int)].toArray 28).below hb1
  go_wp2_with fail
  refine (isTime_yes now _ hnow h1).mono ?_
  rintro e w2 ⟨rfl, rfl⟩
  have k13 := hq1.cell 13 rfl
  have k5 := hq1.cell 5 rfl
  have hA1 : ∀ o, (w2.alloc o).cell? ⟨ab, ao, none⟩ = some (.slice a1 n1 c1) := fun o => below_cell_of (below_new hB1 _) HC1.out
  have hz2 := hq1.lt
  have HB1 := Lib.hid hB1
  have HQ1 := Lib.hid hq1
  clear hB1 hb1 hq1
  go_wp2_with (first | (refine wpList_load_mid rfl 28 _ rfl w.heap.size 0 rfl (dqList A B room (some ⟨ab, ao, none⟩) lc v0 v7 s) _ (Blk.range HQ1.out) Tryd.underlying28 rfl (by kernel_rfl) ?_))
  refine wp_loop_rounds 3 ?_
  rw [rounds_succ]
  go_wp2
  refine wp_region_any (by kernel_rfl) ?_
  change wpAny _ _ _ _ _ _ _ (World.drew _)
  refine wpAny_take (i := 0) (v := ?_) rfl (by kernel_rfl) (by kernel_rfl) (by kernel_rfl) (fun _ _ _ h => h) (Or.inl ⟨by rfl, ?_⟩) ?_
  rotate_left
  · intro w; go_simp; try with_reducible rfl
  try go_simp
  refine wpAny_take (i := 1) (v := ?_) rfl (by kernel_rfl) (by kernel_rfl) (by kernel_rfl) (fun _ _ _ h => h) (Or.inl ⟨by rfl, ?_⟩) ?_
  rotate_left
  · intro w; go_simp; try with_reducible rfl
  try go_simp
  refine wpAny_take (i := 2) (v := ?_) rfl (by kernel_rfl) (by kernel_rfl) (by kernel_rfl) (fun _ _ _ h => h) (Or.inl ⟨by rfl, ?_⟩) ?_
  rotate_left
  · intro w; go_simp; try with_reducible rfl
  try go_simp
  refine wpAny_take (i := 3) (v := ?_) rfl (by kernel_rfl) (by kernel_rfl) (by kernel_rfl) (fun _ _ _ h => h) (Or.inl ⟨by rfl, ?_⟩) ?_
  rotate_left
  · intro w; go_simp; try with_reducible rfl
  try go_simp
  refine wpAny_take (i := 5) (v := ?_) rfl (by kernel_rfl) (by kernel_rfl) (by kernel_rfl) (fun _ _ _ h => h) (Or.inl ⟨by rfl, ?_⟩) ?_
  rotate_left
  · intro w; go_simp; try with_reducible rfl
  try go_simp
  refine wpAny_take (i := 6) (v := ?_) rfl (by kernel_rfl) (by kernel_rfl) (by kernel_rfl) (fun _ _ _ h => h) (Or.inl ⟨by rfl, ?_⟩) ?_
  rotate_left
  · intro w; go_simp; try with_reducible rfl
  try go_simp
  refine wpAny_ready (rs := [4]) (by kernel_rfl) (by simp) ?_
  refine AllReady.cons rfl (fun K hK => ?_) AllReady.nil
  refine ready_make_list (g := w2.heap.size + 1) rfl _ _ _ rfl rfl rfl hn1 (by simp only [World.size_alloc, World.drew]) ?_
  intro V3 old3 hown3 hg3
  have hp3 : Blk V3 w2.heap.size (pairList A B room (some ⟨ab, ao, none⟩) lc v0 v7 s (.slice none 0 0) (.slice none 0 0) now (.slice none 0 0)) := blk_thru (Blk.new w2 _ _) hg3 (fun e => by cases e) (below_drawn (Below.refl _ _))
  have p15 := hp3.cell 15 rfl
  have f15 := hp3.frozen ⟨w2.heap.size, 15, none⟩ rfl
  have HP3 := Lib.hid hp3
  have HOWN3 := Lib.hid hown3
  have HG3 := Lib.hid hg3
  clear hp3 hown3 hg3
  refine hK _ _ ?_
  clear hK K
  try go_simp
  refine wpAny_take (i := 7) (v := ?_) rfl (by kernel_rfl) (by kernel_rfl) (by kernel_rfl) (fun _ _ _ h => h) (Or.inl ⟨by rfl, ?_⟩) ?_
  rotate_left
  · intro w; go_simp; try with_reducible rfl
  try go_simp
  refine wpAny_ready (rs := [8]) (by kernel_rfl) (by simp) ?_
  refine AllReady.cons rfl (fun K hK => ?_) AllReady.nil
  go_simp
  refine hK _ _ ?_
  clear hK K
  try go_simp
  refine wpAny_done (by kernel_rfl) ?_ _
  have hb4 : Below w.heap.size w (V3.setCell ⟨w2.heap.size, 15, none⟩ (.slice (some ⟨w2.heap.size + 1, 0, none⟩) n1 n1)) := below_set (below_grown (below_drawn (below_new HB1.out _)) HG3.out (fun k e => by cases e)) (by simp only; omega) _
  have hp4 : Blk (V3.setCell ⟨w2.heap.size, 15, none⟩ (.slice (some ⟨w2.heap.size + 1, 0, none⟩) n1 n1)) w2.heap.size (pairList A B room (some ⟨ab, ao, none⟩) lc v0 v7 s (.slice (some ⟨w2.heap.size + 1, 0, none⟩) n1 n1) (.slice none 0 0) now (.slice none 0 0)) := HP3.out.set 15 _
  have hown4 : (V3.setCell ⟨w2.heap.size, 15, none⟩ (.slice (some ⟨w2.heap.size + 1, 0, none⟩) n1 n1)).ownsRow (w2.heap.size + 1) 51 9 (.slice (some ⟨w2.heap.size + 1, 0, none⟩) n1 n1) n1 old3 := HOWN3.out.kept (grown_set _ ⟨w2.heap.size, 15, none⟩ _) (Or.inr (by simp [Value.ownBlock]))
  have HB4 := Lib.hid hb4
  have HP4 := Lib.hid hp4
  have HOWN4 := Lib.hid hown4
  clear hb4 hp4 hown4
  go_wp2_with (first | (with_reducible refine wpList_copy_list rfl (.tmp 49) (.tmp 50) rfl rfl rfl (HR1.out.below HB4.out) HOWN4.out ?_; intro V5 hown5 hg5))
  have hb5 : Below w.heap.size w V5 := below_grown HB4.out hg5 (fun k e => by injection e with e; omega)
  have hp5 : Blk V5 w2.heap.size (pairList A B room (some ⟨ab, ao, none⟩) lc v0 v7 s (.slice (some ⟨w2.heap.size + 1, 0, none⟩) n1 n1) (.slice none 0 0) now (.slice none 0 0)) := HP4.out.kept hg5 (fun e => by injection e with e; omega)
  have hd5 := below_cell_of hb5 HC2.out
  have lt5 := hp5.lt
  have ltm := (hown5.lt (w2.heap.size + 1) rfl).2
  have HB5 := Lib.hid hb5
  have HP5 := Lib.hid hp5
  have HOWN5 := Lib.hid hown5
  clear hb5 hp5 hown5 hg5 HB4 HP4 HOWN4 HOWN3 HG3
  rw [rounds_succ]
  go_wp2
  refine wp_region_any (by kernel_rfl) ?_
  change wpAny _ _ _ _ _ _ _ (World.drew _)
  refine wpAny_take (i := 0) (v := ?_) rfl (by kernel_rfl) (by kernel_rfl) (by kernel_rfl) (fun _ _ _ h => h) (Or.inl ⟨by rfl, ?_⟩) ?_
  rotate_left
  · intro w; go_simp; try with_reducible rfl
  try go_simp
  refine wpAny_take (i := 1) (v := ?_) rfl (by kernel_rfl) (by kernel_rfl) (by kernel_rfl) (fun _ _ _ h => h) (Or.inl ⟨by rfl, ?_⟩) ?_
  rotate_left
  · intro w; go_simp; try with_reducible rfl
  try go_simp
  refine wpAny_take (i := 2) (v := ?_) rfl (by kernel_rfl) (by kernel_rfl) (by kernel_rfl) (fun _ _ _ h => h) (Or.inl ⟨by rfl, ?_⟩) ?_
  rotate_left
  · intro w; go_simp; try with_reducible rfl
  try go_simp
  refine wpAny_take (i := 3) (v := ?_) rfl (by kernel_rfl) (by kernel_rfl) (by kernel_rfl) (fun _ _ _ h => h) (Or.inl ⟨by rfl, ?_⟩) ?_
  rotate_left
  · intro w; go_simp; try with_reducible rfl
  try go_simp
  refine wpAny_take (i := 5) (v := ?_) rfl (by kernel_rfl) (by kernel_rfl) (by kernel_rfl) (fun _ _ _ h => h) (Or.inl ⟨by rfl, ?_⟩) ?_
  rotate_left
  · intro w; go_simp; try with_reducible rfl
  try go_simp
  refine wpAny_take (i := 6) (v := ?_) rfl (by kernel_rfl) (by kernel_rfl) (by kernel_rfl) (fun _ _ _ h => h) (Or.inl ⟨by rfl, ?_⟩) ?_
  rotate_left
  · intro w; go_simp; try with_reducible rfl
  try go_simp
  refine wpAny_ready (rs := [4]) (by kernel_rfl) (by simp) ?_
  refine AllReady.cons rfl (fun K hK => ?_) AllReady.nil
  refine ready_make_list (g := V5.heap.size) rfl _ _ _ rfl rfl rfl hn2 (by simp only [World.drew]) ?_
  intro V6 old6 hown6 hg6
  have hp6 : Blk V6 w2.heap.size (pairList A B room (some ⟨ab, ao, none⟩) lc v0 v7 s (.slice (some ⟨w2.heap.size + 1, 0, none⟩) n1 n1) (.slice none 0 0) now (.slice none 0 0)) := blk_thru HP5.out hg6 (fun e => by cases e) (below_drawn (Below.refl _ _))
  have p16 := hp6.cell 16 rfl
  have f16 := hp6.frozen ⟨w2.heap.size, 16, none⟩ rfl
  have HP6 := Lib.hid hp6
  have HOWN6 := Lib.hid hown6
  have HG6 := Lib.hid hg6
  clear hp6 hown6 hg6
  refine hK _ _ ?_
  clear hK K
  try go_simp
  refine wpAny_take (i := 7) (v := ?_) rfl (by kernel_rfl) (by kernel_rfl) (by kernel_rfl) (fun _ _ _ h => h) (Or.inl ⟨by rfl, ?_⟩) ?_
  rotate_left
  · intro w; go_simp; try with_reducible rfl
  try go_simp
  refine wpAny_ready (rs := [8]) (by kernel_rfl) (by simp) ?_
  refine AllReady.cons rfl (fun K hK => ?_) AllReady.nil
  go_simp
  refine hK _ _ ?_
  clear hK K
  try go_simp
  refine wpAny_done (by kernel_rfl) ?_ _
  have hb7 : Below w.heap.size w (V6.setCell ⟨w2.heap.size, 16, none⟩ (.slice (some ⟨V5.heap.size, 0, none⟩) n2 n2)) := below_set (below_grown (below_drawn HB5.out) HG6.out (fun k e => by cases e)) (by simp only; omega) _
  have hp7 : Blk (V6.setCell ⟨w2.heap.size, 16, none⟩ (.slice (some ⟨V5.heap.size, 0, none⟩) n2 n2)) w2.heap.size (pairList A B room (some ⟨ab, ao, none⟩) lc v0 v7 s (.slice (some ⟨w2.heap.size + 1, 0, none⟩) n1 n1) (.slice (some ⟨V5.heap.size, 0, none⟩) n2 n2) now (.slice none 0 0)) := HP6.out.set 16 _
  have hown7 : (V6.setCell ⟨w2.heap.size, 16, none⟩ (.slice (some ⟨V5.heap.size, 0, none⟩) n2 n2)).ownsRow V5.heap.size 51 9 (.slice (some ⟨V5.heap.size, 0, none⟩) n2 n2) n2 old6 := HOWN6.out.kept (grown_set _ ⟨w2.heap.size, 16, none⟩ _) (Or.inr (by simp [Value.ownBlock]; omega))
  have hone7 : (V6.setCell ⟨w2.heap.size, 16, none⟩ (.slice (some ⟨V5.heap.size, 0, none⟩) n2 n2)).ownsRow (w2.heap.size + 1) 51 9 (.slice (some ⟨w2.heap.size + 1, 0, none⟩) n1 n1) n1 (flatQ xs) := ((own_below9 HOWN5.out (below_drawn (Below.refl _ _))).kept HG6.out (Or.inr (by simp [Value.ownBlock]))).kept (grown_set _ ⟨w2.heap.size, 16, none⟩ _) (Or.inr (by simp [Value.ownBlock]))
  have HB7 := Lib.hid hb7
  have HP7 := Lib.hid hp7
  have HOWN7 := Lib.hid hown7
  have HONE7 := Lib.hid hone7
  clear hb7 hp7 hown7 hone7 HP6 HOWN6 HG6 HP5 HOWN5
  go_wp2_with (first | (with_reducible refine wpList_copy_list rfl (.tmp 49) (.tmp 50) rfl rfl rfl (HR2.out.below HB7.out) HOWN7.out ?_; intro V8 hown8 hg8))
  have hb8 : Below w.heap.size w V8 := below_grown HB7.out hg8 (fun k e => by injection e with e; omega)
  have hp8 : Blk V8 w2.heap.size (pairList A B room (some ⟨ab, ao, none⟩) lc v0 v7 s (.slice (some ⟨w2.heap.size + 1, 0, none⟩) n1 n1) (.slice (some ⟨V5.heap.size, 0, none⟩) n2 n2) now (.slice none 0 0)) := HP7.out.kept hg8 (fun e => by injection e with e; omega)
  have hone8 := HONE7.out.kept hg8 (Or.inr (by simp [Value.ownBlock]; omega))
  have q13 := hp8.cell 13 rfl
  have g13 := hp8.frozen ⟨w2.heap.size, 13, none⟩ rfl
  have HB8 := Lib.hid hb8
  have HP8 := Lib.hid hp8
  have HOWN8 := Lib.hid hown8
  have HONE8 := Lib.hid hone8
  clear hb8 hp8 hown8 hone8 hg8 HB7 HP7 HOWN7 HONE7
  rw [rounds_succ]
  go_wp2
  go_ret2
  refine ⟨w2.heap.size, w2.heap.size + 1, V5.heap.size, rfl, below_set HB8.out (by simp only; omega) _, HP8.out.set 13 _, ?_, ?_, by omega, by omega, by omega, by omega⟩
  · exact World.ownsRow.kept (owns_mono HONE8.out (by omega)) (grown_set _ ⟨w2.heap.size, 13, none⟩ _) (Or.inr (by simp [Value.ownBlock]))
  · exact World.ownsRow.kept (owns_mono HOWN8.out (by omega)) (grown_set _ ⟨w2.heap.size, 13, none⟩ _) (Or.inr (by simp [Value.ownBlock]; omega))
end Go.Proofs.YtdecclklenaoaaaDoor
