/- What happens to a packet that comes to a queue of package early, as the statements see it. -/
import Derived.Test.YtfeemiamjmmolaaDoorEaState
namespace Go.Proofs.YtfeemiamjmmolaaDoor
open Go.RowKit

set_option maxRecDepth 100000 in
set_option maxHeartbeats 4000000 in
theorem fate_drop (A B C room : Int) (ad : Addr) (lc : Nat) (v0 v7 : Int) (s : Nat) (xs : List Ea.Item) (w : World) (hl : HoldsL w ad xs) (_ : xs.length ≤ 500) (ht : Table w) (p : Ea.Pkt) (now : Int) (v1 : Int) (s1 : Nat)
    (hcall : ∀ W, HoldsL W ad xs → Table W → Calls Tryd.prog 13 #[.agg #[.int .i64 2, .int .i64 A, .int .i64 B, .int .i64 C, .int .i64 room, .slice (some ad) 1 lc, .int .i64 v0, .int .i64 0, .int .i64 0, .int .i64 0, .int .i64 0, .int .i64 0, .int .i64 0, .int .i64 v7, .int .u64 (s : Int)], pktVal p, .int .i64 now] W (PutGives W A B C room v1 now s1 xs (some p))) :
    Calls Tryd.prog 12 #[.agg #[.int .i64 2, .int .i64 A, .int .i64 B, .int .i64 C, .int .i64 room, .slice (some ad) 1 lc, .int .i64 v0, .int .i64 0, .int .i64 0, .int .i64 0, .int .i64 0, .int .i64 0, .int .i64 0, .int .i64 v7, .int .u64 (s : Int)], pktVal p, .int .i64 now] w fun e V => e = .returned (.int .i64 2) ∧ Below w.heap.size w V := by
  have HC := Lib.hid hcall
  have HT := Lib.hid ht
  have HL := Lib.hid hl
  clear hcall ht hl
  go_enter Tryd.func12, Tryd.ntmps12
  go_wp2_with fail
  refine (HC.out _ (HL.out.below (by exact below_new (below_new (Below.refl _ _) _) _)) (table_below HT.out (by exact below_new (below_new (Below.refl _ _) _) _))).mono ?_
  rintro e w1 ⟨ad', out, rfl, hb, ⟨a', c', hc', hr'⟩, ho⟩
  have hB := below_on (below_new (below_new (Below.refl w.heap.size w) _) _) hb
  have hq1 : Blk w1 w.heap.size (qList A B C room (some ad) 1 lc v0 v7 s) := ((Blk.new w (qList A B C room (some ad) 1 lc v0 v7 s).toArray 28).below (below_new (Below.refl _ _) _)).below hb
  have hp1 : Blk w1 (w.heap.size + 1) (pktList p) := (blk_new_at (w.alloc _) (pktList p).toArray 35 (by simp)).below hb
  obtain ⟨a, c, hc, hr⟩ := HL.out.below hB
  have q5 := hq1.cell 5 rfl
  have p0 := hp1.cell 0 rfl
  have p1 := hp1.cell 1 rfl
  have p2 := hp1.cell 2 rfl
  have p3 := hp1.cell 3 rfl
  have p4 := hp1.cell 4 rfl
  have p5 := hp1.cell 5 rfl
  have p6 := hp1.cell 6 rfl
  have p7 := hp1.cell 7 rfl
  have hz := hp1.lt
  have hz0 := hq1.lt
  have hz2 := World.block_lt_of_cell? _ _ hc
  have hz3 := World.block_lt_of_cell? _ _ hc'
  have HR' := Lib.hid hr'
  have HB := Lib.hid hB
  have HO := Lib.hid ho
  have HP1 := Lib.hid hp1
  clear hr' hr hB hb ho hq1 hp1
  obtain ⟨bo, rfl, hbo⟩ := HO.out
  have hbo0 := hbo 0 _ rfl
  have hbo1 := hbo 1 _ rfl
  have hbo2 := hbo 2 _ rfl
  have hbo3 := hbo 3 _ rfl
  have hbo4 := hbo 4 _ rfl
  have hbo5 := hbo 5 _ rfl
  have hbo6 := hbo 6 _ rfl
  have hbo7 := hbo 7 _ rfl
  simp only [Nat.zero_add] at hbo0 hbo1 hbo2 hbo3 hbo4 hbo5 hbo6 hbo7
  have hz4 := World.block_lt_of_cell? _ _ hbo0
  simp only at hz4
  clear hbo HO
  go_wp2_with (refine wpList_store_new rfl 28 _ _ rfl _ #[.int .i64 2, .int .i64 A, .int .i64 B, .int .i64 C, .int .i64 room, .slice (some ad') 1 1, .int .i64 v1, .int .i64 0, .int .i64 0, .int .i64 0, .int .i64 0, .int .i64 0, .int .i64 0, .int .i64 now, .int .u64 (s1 : Int)] rfl rfl (by kernel_rfl) rfl rfl ?_)
  go_quiet (fail)
  go_wp2
  go_ret
  exact ⟨rfl, below_drawnN (below_new HB.out _) _⟩
set_option maxRecDepth 100000 in
set_option maxHeartbeats 4000000 in
theorem fate_keep (A B C room : Int) (ad : Addr) (lc : Nat) (v0 v7 : Int) (s : Nat) (xs : List Ea.Item) (w : World) (hl : HoldsL w ad xs) (hx : xs.length ≤ 500) (ht : Table w) (p : Ea.Pkt) (now : Int) (v1 : Int) (s1 : Nat)
    (hcall : ∀ W, HoldsL W ad xs → Table W → Calls Tryd.prog 13 #[.agg #[.int .i64 2, .int .i64 A, .int .i64 B, .int .i64 C, .int .i64 room, .slice (some ad) 1 lc, .int .i64 v0, .int .i64 0, .int .i64 0, .int .i64 0, .int .i64 0, .int .i64 0, .int .i64 0, .int .i64 v7, .int .u64 (s : Int)], pktVal p, .int .i64 now] W (PutGives W A B C room v1 now s1 (xs ++ [⟨p, now⟩]) none)) :
    Calls Tryd.prog 12 #[.agg #[.int .i64 2, .int .i64 A, .int .i64 B, .int .i64 C, .int .i64 room, .slice (some ad) 1 lc, .int .i64 v0, .int .i64 0, .int .i64 0, .int .i64 0, .int .i64 0, .int .i64 0, .int .i64 0, .int .i64 v7, .int .u64 (s : Int)], pktVal p, .int .i64 now] w fun e V => e = .returned (.int .i64 0) ∧ Below w.heap.size w V := by
  have HC := Lib.hid hcall
  have HT := Lib.hid ht
  have HL := Lib.hid hl
  clear hcall ht hl
  go_enter Tryd.func12, Tryd.ntmps12
  go_wp2_with fail
  refine (HC.out _ (HL.out.below (by exact below_new (below_new (Below.refl _ _) _) _)) (table_below HT.out (by exact below_new (below_new (Below.refl _ _) _) _))).mono ?_
  rintro e w1 ⟨ad', out, rfl, hb, ⟨a', c', hc', hr'⟩, ho⟩
  have hB := below_on (below_new (below_new (Below.refl w.heap.size w) _) _) hb
  have hq1 : Blk w1 w.heap.size (qList A B C room (some ad) 1 lc v0 v7 s) := ((Blk.new w (qList A B C room (some ad) 1 lc v0 v7 s).toArray 28).below (below_new (Below.refl _ _) _)).below hb
  have hp1 : Blk w1 (w.heap.size + 1) (pktList p) := (blk_new_at (w.alloc _) (pktList p).toArray 35 (by simp)).below hb
  obtain ⟨a, c, hc, hr⟩ := HL.out.below hB
  have q5 := hq1.cell 5 rfl
  have p0 := hp1.cell 0 rfl
  have p1 := hp1.cell 1 rfl
  have p2 := hp1.cell 2 rfl
  have p3 := hp1.cell 3 rfl
  have p4 := hp1.cell 4 rfl
  have p5 := hp1.cell 5 rfl
  have p6 := hp1.cell 6 rfl
  have p7 := hp1.cell 7 rfl
  have hz := hp1.lt
  have hz0 := hq1.lt
  have hz2 := World.block_lt_of_cell? _ _ hc
  have hz3 := World.block_lt_of_cell? _ _ hc'
  have HR' := Lib.hid hr'
  have HB := Lib.hid hB
  have HO := Lib.hid ho
  have HP1 := Lib.hid hp1
  clear hr' hr hB hb ho hq1 hp1
  have ho := HO.out
  obtain rfl : out = .slice none 0 0 := ho
  clear HO
  rw [List.length_append, List.length_singleton] at hc'
  obtain ⟨gb, ob, ea, hrow⟩ := HR'.out.2 xs.length (by rw [List.length_append, List.length_singleton]; omega)
  subst ea
  rw [Ea.getD_last] at hrow
  have HROW := Lib.hid hrow
  have hrow0 := hrow 0 _ rfl
  have hz4 := World.block_lt_of_cell? _ _ hrow0
  simp only at hz4
  clear hrow hrow0
  go_wp2_with (first | (refine wpList_store_new rfl 28 _ _ rfl _ #[.int .i64 2, .int .i64 A, .int .i64 B, .int .i64 C, .int .i64 room, .slice (some ad') 1 1, .int .i64 v1, .int .i64 0, .int .i64 0, .int .i64 0, .int .i64 0, .int .i64 0, .int .i64 0, .int .i64 now, .int .u64 (s1 : Int)] rfl rfl (by kernel_rfl) rfl rfl ?_))
  go_quiet (fail)
  go_wp2_with (first | (refine wpList_load_mid rfl 37 _ rfl gb (ob + xs.length * 9) (by first | rfl | exact congrArg (fun x => Value.pointer (some x)) (Addr.add_mid _ _ _)) (itemList ⟨p, now⟩) _ (rangeAt_below HROW.out (by first | exact below_new (below_drawn (Below.refl _ _)) _ | exact below_drawnN (below_new (Below.refl _ _) _) _)) Tryd.underlying37 rfl (by kernel_rfl) ?_) | (refine wpList_store_new rfl 37 _ _ rfl _ (itemList ⟨p, now⟩).toArray rfl rfl (by kernel_rfl) rfl rfl ?_))
  go_ret
  exact ⟨rfl, by repeat (first | exact HB.out | refine below_drawnN ?_ _ | refine below_drawn ?_ | refine below_new ?_ _ | refine below_set ?_ (by first | (simp; done) | (simp; omega)) _)⟩

end Go.Proofs.YtfeemiamjmmolaaDoor
