/- Calls of package dual before the time of the queue. -/
import Derived.Test.YtdecclklenaoaaaDoorDuQ
namespace Go.Proofs.YtdecclklenaoaaaDoor
open Go.RowKit

set_option maxRecDepth 100000 in
set_option maxHeartbeats 4000000 in
theorem dopen_late {w : World} {A B room : Int} {ab ao : Nat} {v0 v7 : Int} {a1 : Option Addr} {n1 c1 : Nat} {xs : List Ea.Item} {a2 : Option Addr} {n2 c2 : Nat} {ys : List Ea.Item} (hq : QIn w A B room ab ao v0 v7 a1 n1 c1 xs a2 n2 c2 ys) (lc : Nat) (s : Nat) (now : Int) (t0 : 0 ≤ now) (h0 : now < v7) (h1 : now ≤ 10000000) :
    Calls Tryd.prog 30 #[.agg (dqList A B room (some ⟨ab, ao, none⟩) lc v0 v7 s).toArray, .int .i64 now] w fun e V => e = .returned (.tuple #[.pointer none, .int .i64 18]) ∧ Below w.heap.size w V := by
  have HQ := Lib.hid hq
  have hb : decide (now < v7) = true := decide_eq_true h0
  clear hq
  go_enter Tryd.func30, Tryd.ntmps30
  go_wp2_with fail
  have hi := HQ.out.below (below_new (Below.refl w.heap.size w) (.cells (dqList A B room (some ⟨ab, ao, none⟩) lc v0 v7 s).toArray 28))
  refine (dvalid_yes A B room ab ao lc v0 v7 s _ a1 n1 c1 xs a2 n2 c2 ys hi.h1 hi.h2 hi.r1 hi.r2 hi.ok).mono ?_
  rintro e w1 ⟨rfl, hb1⟩
  have HB1 := Lib.hid (below_on (below_new (Below.refl w.heap.size w) _) hb1)
  have hk := (Blk.new w (dqList A B room (some ⟨ab, ao, none⟩) lc v0 v7 s).toArray 28).below hb1
  have k13 := hk.cell 13 rfl
  clear hb1 hk hi
  go_wp2_with fail
  refine (isTime_yes now _ t0 h1).mono ?_
  rintro e w2 ⟨rfl, rfl⟩
  go_wp2
  go_ret2
  exact ⟨rfl, HB1.out⟩
set_option maxRecDepth 100000 in
set_option maxHeartbeats 4000000 in
theorem take_late {w : World} {A B room : Int} {ab ao : Nat} {v0 v7 : Int} {a1 : Option Addr} {n1 c1 : Nat} {xs : List Ea.Item} {a2 : Option Addr} {n2 c2 : Nat} {ys : List Ea.Item} (hq : QIn w A B room ab ao v0 v7 a1 n1 c1 xs a2 n2 c2 ys) (lc : Nat) (s : Nat) (now : Int) (t0 : 0 ≤ now) (h0 : now < v7) (h1 : now ≤ 10000000) :
    Calls Tryd.prog 14 #[.agg (dqList A B room (some ⟨ab, ao, none⟩) lc v0 v7 s).toArray, .int .i64 now] w fun e V => e = .returned (.tuple #[.agg zeroDQ.toArray, pktVal default, .bool false, .slice none 0 0, .int .i64 18]) ∧ Below w.heap.size w V := by
  have HQ := Lib.hid hq
  clear hq
  go_enter Tryd.func14, Tryd.ntmps14
  go_wp2
  go_step3
  go_wp2_with fail
  refine (dopen_late (HQ.out.below (below_new (below_new (below_new (Below.refl _ _) _) _) _)) lc s now t0 h0 h1).mono ?_
  rintro e w1 ⟨rfl, hb1⟩
  have HB1 := Lib.hid (below_on (below_new (below_new (below_new (Below.refl w.heap.size w) _) _) _) hb1)
  have HZ1 := Lib.hid (((blk_new_at (w.alloc (.cells (dqList A B room (some ⟨ab, ao, none⟩) lc v0 v7 s).toArray 28)) zeroDQ.toArray 28 (g := w.heap.size + 1) (by simp only [World.size_alloc])).below (below_new (Below.refl _ _) (.cells zeroP.toArray 30))).below hb1)
  have HP1 := Lib.hid ((blk_new_at ((w.alloc (.cells (dqList A B room (some ⟨ab, ao, none⟩) lc v0 v7 s).toArray 28)).alloc (.cells zeroDQ.toArray 28)) zeroP.toArray 30 (g := w.heap.size + 1 + 1) (by simp only [World.size_alloc])).below hb1)
  clear hb1
  go_wp2_with (first | (refine wpList_store_blk rfl 28 _ _ rfl (w.heap.size + 1) zeroDQ zeroDQ rfl rfl HZ1.out (by kernel_rfl) rfl (by decide) ?_; intro V7 hq7 hg7; have HP7 := Lib.hid (HP1.out.kept hg7 (by simp)); have HQ7 := Lib.hid hq7; have HG7 := Lib.hid hg7; clear hq7 hg7) | (refine wpList_store_blk rfl 30 _ _ rfl (w.heap.size + 1 + 1) zeroP (pktList default) rfl rfl HP7.out (by kernel_rfl) rfl (pktList_one _) ?_; intro V8 hp8 hg8))
  try rw [Exit.noGoto_ret]
  refine bodyPost_ret (results_cc111 Tryd.results14 rfl rfl (run_loadVar_mid _ (w.heap.size + 1) 0 28 zeroDQ _ (HQ7.out.kept hg8 (by simp)).range Tryd.underlying28 rfl (by kernel_rfl)) (run_loadVar_mid _ (w.heap.size + 1 + 1) 0 30 (pktList default) _ hp8.range Tryd.underlying30 rfl (by kernel_rfl))) rfl ?_
  exact ⟨rfl, below_grown (below_grown HB1.out HG7.out (fun k hk => by injection hk with hk; omega)) hg8 (fun k hk => by injection hk with hk; omega)⟩
set_option maxRecDepth 100000 in
set_option maxHeartbeats 4000000 in
theorem put_late {w : World} {A B room : Int} {ab ao : Nat} {v0 v7 : Int} {a1 : Option Addr} {n1 c1 : Nat} {xs : List Ea.Item} {a2 : Option Addr} {n2 c2 : Nat} {ys : List Ea.Item} (hq : QIn w A B room ab ao v0 v7 a1 n1 c1 xs a2 n2 c2 ys) (lc : Nat) (s : Nat) (p : Ea.Pkt) (hp : p.ok) (now : Int) (t0 : 0 ≤ now) (h0 : now < v7) (h1 : now ≤ 10000000) :
    Calls Tryd.prog 12 #[.agg (dqList A B room (some ⟨ab, ao, none⟩) lc v0 v7 s).toArray, pktVal p, .int .i64 now] w fun e V => e = .returned (.tuple #[.agg zeroDQ.toArray, .slice none 0 0, .int .i64 18]) ∧ Below w.heap.size w V := by
  have HQ := Lib.hid hq
  have HPK := Lib.hid hp
  clear hq hp
  go_enter Tryd.func12, Tryd.ntmps12
  go_wp2_with fail
  refine (disPacket_yes p _ HPK.out).mono ?_
  rintro e w1 ⟨rfl, hb1⟩
  have HB1 := Lib.hid (below_on (below_new (below_new (below_new (Below.refl w.heap.size w) _) _) _) hb1)
  have HQ1 := Lib.hid (((Blk.new w (dqList A B room (some ⟨ab, ao, none⟩) lc v0 v7 s).toArray 28).below (below_new (below_new (Below.refl _ _) (.cells (pktList p).toArray 30)) (.cells zeroDQ.toArray 28))).below hb1)
  have HZ1 := Lib.hid ((blk_new_at ((w.alloc (.cells (dqList A B room (some ⟨ab, ao, none⟩) lc v0 v7 s).toArray 28)).alloc (.cells (pktList p).toArray 30)) zeroDQ.toArray 28 (g := w.heap.size + 1 + 1) (by simp only [World.size_alloc])).below hb1)
  clear hb1
  go_wp2_with (refine wpList_load_mid rfl 28 _ rfl w.heap.size 0 rfl (dqList A B room (some ⟨ab, ao, none⟩) lc v0 v7 s) _ HQ1.out.range Tryd.underlying28 rfl (by kernel_rfl) ?_)
  refine (dopen_late (HQ.out.below HB1.out) lc s now t0 h0 h1).mono ?_
  rintro e w2 ⟨rfl, hb2⟩
  have HB2 := Lib.hid (below_on HB1.out hb2)
  have HZ2 := Lib.hid (HZ1.out.below hb2)
  clear hb2
  go_wp2_with (first | (refine wpList_store_blk rfl 28 _ _ rfl (w.heap.size + 1 + 1) zeroDQ zeroDQ rfl rfl HZ2.out (by kernel_rfl) rfl (by decide) ?_; intro V7 hq7 hg7))
  refine bodyPost_ret (results_c11 Tryd.results12 rfl (run_loadVar_mid _ (w.heap.size + 1 + 1) 0 28 zeroDQ _ hq7.range Tryd.underlying28 rfl (by kernel_rfl))) rfl ?_
  exact ⟨rfl, below_grown HB2.out hg7 (fun k hk => by injection hk with hk; omega)⟩
end Go.Proofs.YtdecclklenaoaaaDoor
