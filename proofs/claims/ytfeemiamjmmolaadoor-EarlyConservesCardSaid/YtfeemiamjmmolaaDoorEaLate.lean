/- Put of package early is refused: too late, or no packet. -/
import Derived.Test.YtfeemiamjmmolaaDoorEaState
namespace Go.Proofs.YtfeemiamjmmolaaDoor
open Go.RowKit

theorem zeroQ_one : ∀ v, v ∈ zeroQ → v.oneCell' = true := by
  intro v hv
  simp only [zeroQ, List.mem_cons, List.not_mem_nil, or_false] at hv
  rcases hv with rfl | rfl | rfl | rfl | rfl | rfl | rfl | rfl | rfl | rfl | rfl | rfl | rfl | rfl | rfl <;> rfl
set_option maxRecDepth 100000 in
set_option maxHeartbeats 4000000 in
theorem open_late (A B C room : Int) (ad : Addr) (lc : Nat) (v0 v7 seed : Int) (xs : List Ea.Item) (w : World) (hl : HoldsL w ad xs) (hq : QOk A B C room v0 v7 xs) (now : Int) (h0 : 0 ≤ now) (h1 : now < v7) :
    Calls Tryd.prog 20 #[.agg #[.int .i64 2, .int .i64 A, .int .i64 B, .int .i64 C, .int .i64 room, .slice (some ad) 1 lc, .int .i64 v0, .int .i64 0, .int .i64 0, .int .i64 0, .int .i64 0, .int .i64 0, .int .i64 0, .int .i64 v7, .int .u64 seed], .int .i64 now] w fun e V => e = .returned (.tuple #[.pointer none, .int .i64 18]) ∧ Below w.heap.size w V := by
  obtain ⟨a, c, hc, hr⟩ := hl
  have hs := hq.short
  have hn : ((xs.length : Nat) : Int) ≤ 9223372036854775807 := by omega
  have HR := Lib.hid hr
  have HQ := Lib.hid hq
  have h2 : now ≤ 10000000 := by have := hq.t1; omega
  clear hr hq
  go_enter Tryd.func20, Tryd.ntmps20
  go_wp2_with fail
  refine (valid_yes A B C room ad lc v0 v7 seed a xs.length c xs _ (below_cell_of (below_new (Below.refl _ _) _) hc) (HR.out.below (below_new (Below.refl _ _) _)) hn HQ.out).mono ?_
  rintro e w1 ⟨rfl, hb1⟩
  have hB1 : Below w.heap.size w w1 := below_on (below_new (Below.refl _ _) _) hb1
  have hq1 : Blk w1 w.heap.size (qList A B C room (some ad) 1 lc v0 v7 seed) := (Blk.new w (qList A B C room (some ad) 1 lc v0 v7 seed).toArray 28).below hb1
  have k13 := hq1.cell 13 rfl
  have HB1 := Lib.hid hB1
  clear hB1 hq1 hb1
  go_wp2_with fail
  refine (in_yes now 0 10000000 _ h0 h2).mono ?_
  rintro e w2 ⟨rfl, rfl⟩
  go_wp2
  go_ret2
  exact ⟨rfl, HB1.out⟩
set_option maxRecDepth 100000 in
set_option maxHeartbeats 4000000 in
theorem put_late (A B C room : Int) (ad : Addr) (lc : Nat) (v0 v7 seed : Int) (xs : List Ea.Item) (w : World) (hl : HoldsL w ad xs) (hq : QOk A B C room v0 v7 xs) (p : Ea.Pkt) (hp : p.ok) (now : Int) (h0 : 0 ≤ now) (h1 : now < v7) :
    Calls Tryd.prog 13 #[.agg #[.int .i64 2, .int .i64 A, .int .i64 B, .int .i64 C, .int .i64 room, .slice (some ad) 1 lc, .int .i64 v0, .int .i64 0, .int .i64 0, .int .i64 0, .int .i64 0, .int .i64 0, .int .i64 0, .int .i64 v7, .int .u64 seed], pktVal p, .int .i64 now] w fun e V => e = .returned (.tuple #[.agg #[.int .i64 0, .int .i64 0, .int .i64 0, .int .i64 0, .int .i64 0, .slice none 0 0, .int .i64 0, .int .i64 0, .int .i64 0, .int .i64 0, .int .i64 0, .int .i64 0, .int .i64 0, .int .i64 0, .int .u64 0], .slice none 0 0, .int .i64 18]) ∧ Below w.heap.size w V := by
  have HL := Lib.hid hl
  have HQ := Lib.hid hq
  have HP := Lib.hid hp
  clear hl hq hp
  go_enter Tryd.func13, Tryd.ntmps13
  go_wp2_with fail
  refine (isPacket_yes p _ HP.out).mono ?_
  rintro e w1 ⟨rfl, hb1⟩
  have hB1 : Below w.heap.size w w1 := below_on (below_new (below_new (below_new (Below.refl _ _) _) _) _) hb1
  have hq1 : Blk w1 w.heap.size (qList A B C room (some ad) 1 lc v0 v7 seed) := ((Blk.new w (qList A B C room (some ad) 1 lc v0 v7 seed).toArray 28).below (below_new (below_new (Below.refl _ _) _) _)).below hb1
  have hr1 : Blk w1 (w.heap.size + 1 + 1) zeroQ := (blk_new_at ((w.alloc _).alloc _) zeroQ.toArray 28 (by simp)).below hb1
  have HB1 := Lib.hid hB1
  have HQ1 := Lib.hid hq1
  have HR1 := Lib.hid hr1
  clear hB1 hq1 hr1 hb1
  go_wp2_with (refine wpList_load_mid rfl 28 _ rfl w.heap.size 0 rfl (qList A B C room (some ad) 1 lc v0 v7 seed) _ HQ1.out.range Tryd.underlying28 rfl (by kernel_rfl) ?_)
  refine (open_late A B C room ad lc v0 v7 seed xs w1 (HL.out.below HB1.out) HQ.out now h0 h1).mono ?_
  rintro e w2 ⟨rfl, hb2⟩
  have HB2 := Lib.hid (below_on HB1.out hb2)
  have HR2 := Lib.hid (HR1.out.below hb2)
  clear hb2
  go_wp2_with (refine wpList_store_blk rfl 28 _ _ rfl (w.heap.size + 1 + 1) zeroQ zeroQ rfl rfl HR2.out (by kernel_rfl) rfl zeroQ_one ?_; intro V7 hq7 hg7)
  refine bodyPost_ret (results_c11 Tryd.results13 rfl (run_loadVar_mid _ (w.heap.size + 1 + 1) 0 28 zeroQ _ hq7.range Tryd.underlying28 rfl (by kernel_rfl))) rfl ?_
  exact ⟨rfl, below_grown HB2.out hg7 (fun k hk => by injection hk with hk; omega)⟩
set_option maxRecDepth 100000 in
set_option maxHeartbeats 4000000 in
theorem put_zero (A B C room : Int) (ad : Addr) (lc : Nat) (v0 v7 seed : Int) (w : World) (now : Int) :
    Calls Tryd.prog 13 #[.agg #[.int .i64 2, .int .i64 A, .int .i64 B, .int .i64 C, .int .i64 room, .slice (some ad) 1 lc, .int .i64 v0, .int .i64 0, .int .i64 0, .int .i64 0, .int .i64 0, .int .i64 0, .int .i64 0, .int .i64 v7, .int .u64 seed], .agg #[.int .i64 0, .int .i64 0, .int .i64 0, .int .i64 0, .int .i64 0, .int .i64 0, .bool false, .bool false], .int .i64 now] w fun e V => e = .returned (.tuple #[.agg #[.int .i64 0, .int .i64 0, .int .i64 0, .int .i64 0, .int .i64 0, .slice none 0 0, .int .i64 0, .int .i64 0, .int .i64 0, .int .i64 0, .int .i64 0, .int .i64 0, .int .i64 0, .int .i64 0, .int .u64 0], .slice none 0 0, .int .i64 1]) ∧ Below w.heap.size w V := by
  go_enter Tryd.func13, Tryd.ntmps13
  go_wp2_with fail
  refine (isPacket_zero _).mono ?_
  rintro e w1 ⟨rfl, hb1⟩
  have hB1 : Below w.heap.size w w1 := below_on (below_new (below_new (below_new (Below.refl _ _) _) _) _) hb1
  have hr1 : Blk w1 (w.heap.size + 1 + 1) zeroQ := (blk_new_at ((w.alloc _).alloc _) zeroQ.toArray 28 (by simp)).below hb1
  have HB1 := Lib.hid hB1
  have HR1 := Lib.hid hr1
  clear hB1 hr1 hb1
  go_wp2_with (refine wpList_store_blk rfl 28 _ _ rfl (w.heap.size + 1 + 1) zeroQ zeroQ rfl rfl HR1.out (by kernel_rfl) rfl zeroQ_one ?_; intro V7 hq7 hg7)
  refine bodyPost_ret (results_c11 Tryd.results13 rfl (run_loadVar_mid _ (w.heap.size + 1 + 1) 0 28 zeroQ _ hq7.range Tryd.underlying28 rfl (by kernel_rfl))) rfl ?_
  exact ⟨rfl, below_grown HB1.out hg7 (fun k hk => by injection hk with hk; omega)⟩
end Go.Proofs.YtfeemiamjmmolaaDoor
