/- The small functions on a pair of package dual. -/
import Derived.Test.YtdecclklenaoaaaDoorDuOpen
namespace Go.Proofs.YtdecclklenaoaaaDoor
open Go.RowKit

abbrev zeroDQ : List Value := [.int .i64 0, .int .i64 0, .int .i64 0, .int .i64 0, .int .i64 0, .slice none 0 0, .int .i64 0, .int .i64 0, .int .i64 0, .int .i64 0, .int .i64 0, .int .i64 0, .int .i64 0, .int .i64 0, .int .u64 0]
theorem dqList_one (A B room : Int) (la : Option Addr) (lc : Nat) (v0 v7 : Int) (s : Nat) : ∀ v, v ∈ dqList A B room la lc v0 v7 s → v.oneCell' = true := by
  intro v h
  simp only [List.mem_cons, List.not_mem_nil, or_false] at h
  rcases h with rfl | rfl | rfl | rfl | rfl | rfl | rfl | rfl | rfl | rfl | rfl | rfl | rfl | rfl | rfl <;> rfl
def CloseSays (W : World) (g : Nat) (A B room : Int) (v0 v7 : Int) (s : Nat) (l1 l2 : Value) (now : Int) (dr : Value) (e : Ending) (V : World) : Prop :=
  e = .returned (.agg (dqList A B room (some ⟨g, 15, none⟩) 2 v0 v7 s).toArray) ∧ Blk V g (pairList A B room (some ⟨g, 15, none⟩) 2 v0 v7 s l1 l2 now dr) ∧ W.grownBy V (some g)
set_option maxRecDepth 100000 in
set_option maxHeartbeats 4000000 in
theorem close_any (W : World) (g : Nat) (A B room : Int) (la : Option Addr) (lc : Nat) (v0 v7 : Int) (s : Nat) (l1 l2 : Value) (now : Int) (dr : Value) (hp : Blk W g (pairList A B room la lc v0 v7 s l1 l2 now dr)) :
    Calls Tryd.prog 31 #[.pointer (some ⟨g, 0, none⟩)] W fun e V => CloseSays W g A B room v0 v7 s l1 l2 now dr e V := by
  have k5 := hp.cell 5 rfl
  have f5 := hp.frozen ⟨g, 5, none⟩ rfl
  have lt := hp.lt
  have HP := Lib.hid hp
  clear hp
  go_enter Tryd.func31, Tryd.ntmps31
  go_wp2_with (first | (refine wpList_load_mid rfl 28 _ rfl g 0 rfl (dqList A B room (some ⟨g, 15, none⟩) 2 v0 v7 s) _ (range_mid [] _ [l1, l2, .int .i64 now, dr] (Blk.range (Blk.below (Blk.set HP.out 5 (.slice (some ⟨g, 15, none⟩) 2 2)) (below_new (Below.refl _ _) _)))) Tryd.underlying28 rfl (by kernel_rfl) ?_) | (refine wpList_store_new rfl 28 _ _ rfl _ (dqList A B room (some ⟨g, 15, none⟩) 2 v0 v7 s).toArray (by simp only [World.size_setCell]; rfl) rfl (by kernel_rfl) rfl rfl ?_))
  refine bodyPost_ret (results_c Tryd.results31 rfl (run_loadVar_mid _ W.heap.size 0 28 (dqList A B room (some ⟨g, 15, none⟩) 2 v0 v7 s) _ (blk_new_at _ (dqList A B room (some ⟨g, 15, none⟩) 2 v0 v7 s).toArray _ (by simp only [World.size_setCell])).range Tryd.underlying28 rfl (by kernel_rfl))) rfl ?_
  exact ⟨rfl, (HP.out.set 5 _).below (below_new (Below.refl _ _) _), (grown_set W ⟨g, 5, none⟩ _).trans (World.grownBy_alloc _ _ _)⟩
set_option maxRecDepth 100000 in
set_option maxHeartbeats 4000000 in
theorem pressure_none (W : World) (g : Nat) (A B room : Int) (la : Option Addr) (lc : Nat) (v0 v7 : Int) (s : Nat) (l1 : Value) (a2 : Option Addr) (c2 : Nat) (now : Int) (dr : Value) (hp : Blk W g (pairList A B room la lc v0 v7 s l1 (.slice a2 0 c2) now dr)) :
    Calls Tryd.prog 45 #[.pointer (some ⟨g, 0, none⟩)] W fun e V => e = .returned (.int .i64 0) ∧ V = W := by
  have k16 := hp.cell 16 rfl
  clear hp
  go_enter Tryd.func45, Tryd.ntmps45
  go_wp2
  go_ret
  exact ⟨rfl, rfl⟩
set_option maxRecDepth 100000 in
set_option maxHeartbeats 4000000 in
theorem pressure_some (W : World) (g : Nat) (A B room : Int) (la : Option Addr) (lc : Nat) (v0 v7 : Int) (s : Nat) (l1 : Value) (a2 : Option Addr) (n2 c2 : Nat) (ys : List Ea.Item) (now : Int) (dr : Value) (hp : Blk W g (pairList A B room la lc v0 v7 s l1 (.slice a2 n2 c2) now dr)) (hr : RdQ W a2 n2 ys) (hn : 0 < n2) (b0 : 0 ≤ B) (b1 : B ≤ 1000) (d0 : 0 ≤ (ys.getD 0 default).since) (d1 : (ys.getD 0 default).since ≤ now) (d2 : now ≤ 10000000) :
    Calls Tryd.prog 45 #[.pointer (some ⟨g, 0, none⟩)] W fun e V => e = .returned (.int .i64 (Du.press B now ys)) ∧ V = W.drew := by
  have k16 := hp.cell 16 rfl
  have k2 := hp.cell 2 rfl
  have k17 := hp.cell 17 rfl
  have hl := hr.1
  obtain ⟨b, o, rfl, hrk⟩ := hr.2 0 hn
  have c8 := hrk 8 _ rfl
  have hy : ¬ ys.length = 0 := by omega
  have HP : RowKit.Hid (Du.press B now ys = if 1000000 < B * (now - (ys.getD 0 default).since) then 1000000 else B * (now - (ys.getD 0 default).since)) := Lib.hid (by unfold Du.press; rw [if_neg hy])
  obtain ⟨z, hz⟩ : ∃ z, (ys.getD 0 default).since = z := ⟨_, rfl⟩
  change W.cell? _ = some (.int .i64 (ys.getD 0 default).since) at c8
  rw [hz] at c8 HP d0 d1
  have hm := Du.mul_bd b0 b1 (show 0 ≤ now - z by omega) (by omega)
  have e1 : IntKind.i64.wrap (now - z) = now - z := by rw [IntKind.wrap_i64]; omega
  have e2 : IntKind.i64.wrap (B * (now - z)) = B * (now - z) := by
    generalize B * (now - z) = z at hm ⊢
    rw [IntKind.wrap_i64]
    omega
  clear hp hrk hr hy hl hz
  go_enter Tryd.func45, Tryd.ntmps45
  go_wp2
  refine wp_region_still_tail 20 (by kernel_rfl) (by kernel_rfl) ?_
  simp only [List.take_succ_cons, List.take_zero, List.drop_succ_cons, List.drop_zero]
  change wpStill _ _ (World.drew _) _ _ _
  repeat still_step
  refine wpStill_nil ?_
  change wpList _ _ _ _ _ (World.drew _)
  go_wp2
  all_goals
    go_ret
    refine ⟨?_, rfl⟩
    rw [HP.out]
    clear e1 e2 HP c8 k2 k16 k17
    generalize B * (now - z) = y at *
    split <;> first | rfl | (exact ret_int (by omega))
end Go.Proofs.YtdecclklenaoaaaDoor
