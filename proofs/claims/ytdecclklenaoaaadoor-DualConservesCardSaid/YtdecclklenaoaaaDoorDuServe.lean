/- chance and serve of package dual. -/
import Derived.Test.YtdecclklenaoaaaDoorDuPair
namespace Go.Proofs.YtdecclklenaoaaaDoor
open Go.RowKit

/-- What lies in a new block is new. -/
theorem grown_new {W V V' : World} {row : Option Nat} {k : Nat} (h : W.grownBy V row) (g : V.grownBy V' (some k)) (hk : W.heap.size ≤ k) : W.grownBy V' row :=
  ⟨g.os.trans h.os, g.tape.trans h.tape, g.output.trans h.output, Nat.le_trans h.size g.size, fun i hi hne => (g.block i (Nat.lt_of_lt_of_le hi h.size) (fun e => by injection e with e; omega)).trans (h.block i hi hne)⟩
abbrev zeroItem : List Value := [.int .i64 0, .int .i64 0, .int .i64 0, .int .i64 0, .int .i64 0, .int .i64 0, .bool false, .bool false, .int .i64 0]
set_option maxRecDepth 100000 in
set_option maxHeartbeats 4000000 in
theorem chance_call (W : World) (g : Nat) (A B room : Int) (la : Option Addr) (lc : Nat) (v0 v7 : Int) (s : Nat) (l1 l2 : Value) (now : Int) (dr : Value) (num : Int) (nxt : Nat) (n : Int) (hp : Blk W g (pairList A B room la lc v0 v7 s l1 l2 now dr)) (ht : Table W)
    (hcall : ∀ V, Table V → Calls Tryd.prog 47 #[.int .u64 (s : Int), .int .i64 1000000] V fun e w' => e = .returned (.tuple #[.int .i64 num, .int .u64 (nxt : Int), .int .i64 0]) ∧ ∃ k, w' = V.drewN k) :
    Calls Tryd.prog 44 #[.pointer (some ⟨g, 0, none⟩), .int .i64 n] W fun e V => e = .returned (.bool (decide (num < n))) ∧ W.grownBy V (some g) ∧ Blk V g (pairList A B room la lc v0 v7 nxt l1 l2 now dr) := by
  have q14 := hp.cell 14 rfl
  have f14 := hp.frozen ⟨g, 14, none⟩ rfl
  have HQ := Lib.hid hp
  have HT := Lib.hid ht
  have HC := Lib.hid hcall
  clear hp ht hcall
  go_enter Tryd.func44, Tryd.ntmps44
  go_wp2_with fail
  refine (HC.out _ (by exact HT.out)).mono ?_
  rintro e w1 ⟨rfl, k1, rfl⟩
  go_wp2
  go_ret
  exact ⟨rfl, grown_trans (grown_drewN W _ _) (grown_set _ ⟨g, 14, none⟩ _), (blk_drewN HQ.out _).set 14 (.int .u64 nxt)⟩
theorem chance_any (W : World) (g : Nat) (A B room : Int) (la : Option Addr) (lc : Nat) (v0 v7 : Int) (s : Nat) (l1 l2 : Value) (now : Int) (dr : Value) (n : Int) (hp : Blk W g (pairList A B room la lc v0 v7 s l1 l2 now dr)) (ht : Table W) :
    Calls Tryd.prog 44 #[.pointer (some ⟨g, 0, none⟩), .int .i64 n] W fun e V => e = .returned (.bool (decide (Du.rnd s < n))) ∧ W.grownBy V (some g) ∧ Blk V g (pairList A B room la lc v0 v7 (Rand.nextSeed s) l1 l2 now dr) :=
  chance_call W g A B room la lc v0 v7 s l1 l2 now dr (Du.rnd s) (Rand.nextSeed s) n hp ht (fun V hV => below_ok s 1000000 V hV (by decide) (by decide))
set_option maxRecDepth 100000 in
set_option maxHeartbeats 4000000 in
theorem serve_0 (W : World) (g : Nat) (A B room : Int) (la : Option Addr) (lc : Nat) (v0 v7 : Int) (s : Nat) (b o n c : Nat) (lo : Value) (now : Int) (dr : Value) (x : Ea.Item) (hp : Blk W g (pairList A B room la lc v0 v7 s (.slice (some ⟨b, o, none⟩) n c) lo now dr)) (hr : W.rangeAt b o (itemList x)) (hn : 0 < n) (hc : n ≤ c) (hs : c ≤ 100000) :
    Calls Tryd.prog 43 #[.pointer (some ⟨g, 0, none⟩), .int .i64 0] W fun e V => e = .returned (.agg (itemList x).toArray) ∧ W.grownBy V (some g) ∧ ∃ a' c', Blk V g (pairList A B room la lc v0 v7 s (.slice a' (n - 1) c') lo now dr) ∧ (n - 1 ≤ c' ∧ c' ≤ 100000) ∧ (0 < n - 1 → a' = some ⟨b, o + 9, none⟩) := by
  have k1 := hp.cell 15 rfl
  have f1 := hp.frozen ⟨g, 15, none⟩ rfl
  have lt := hp.lt
  have HP := Lib.hid hp
  have HR := Lib.hid hr
  clear hp hr
  go_enter Tryd.func43, Tryd.ntmps43
  have hn1 : (1 : Int) ≤ n := by omega
  have hn2 : 1 ≤ n := hn
  have HA := Lib.hid (below_new (Below.refl W.heap.size W) (.cells zeroItem.toArray 51))
  go_wp2_with (first | (refine wpList_load_mid rfl 51 _ rfl b o (by first | rfl | exact congrArg (fun x => Value.pointer (some x)) (Addr.add_mid _ _ _)) (itemList x) _ (rangeAt_below HR.out HA.out) Tryd.underlying51 rfl (by kernel_rfl) ?_) | (refine wpList_store_new rfl 51 _ _ rfl _ (itemList x).toArray (by simp only [World.size_alloc]) rfl (by kernel_rfl) rfl rfl ?_))
  refine wp_region_still_tail 12 (by kernel_rfl) (by kernel_rfl) ?_
  simp only [List.take_succ_cons, List.take_zero, List.drop_succ_cons, List.drop_zero]
  change wpStill _ _ (World.drew _) _ _ _
  repeat still_step
  refine wpStill_nil ?_
  change wpList _ _ _ _ _ (World.drew _)
  obtain ⟨a', ha'⟩ : ∃ a', (if c = 1 then some (⟨b, o, none⟩ : Addr) else some ⟨b, o + 9, none⟩) = a' := ⟨_, rfl⟩
  rw [ha']
  have HA' := Lib.hid ha'
  clear ha'
  go_wp2_with (first | (refine wpList_load_mid rfl 51 _ rfl (W.heap.size + 1) 0 rfl (itemList x) _ (Blk.range (Blk.below (Blk.kept (blk_new_at (W.alloc (.cells zeroItem.toArray 51)) (itemList x).toArray 51 (by simp only [World.size_alloc])) (grown_set _ ⟨g, 15, none⟩ (.slice a' (n - 1) (c - 1))) (by simp; omega)) (below_drawn (Below.refl _ _)))) Tryd.underlying51 rfl (by kernel_rfl) ?_))
  refine bodyPost_ret (results_c Tryd.results43 rfl (run_loadVar_mid _ W.heap.size 0 51 (itemList x) _ ((blk_new_at _ (itemList x).toArray 51 (by simp only [World.size_setCell])).below (below_drawn (below_new (Below.refl _ _) _))).range Tryd.underlying51 rfl (by kernel_rfl))) rfl ?_
  refine ⟨rfl, grown_trans (grown_set W ⟨g, 15, none⟩ _) (grown_below (below_drawn (below_new (below_new (Below.refl _ _) _) _)) _), a', c - 1, (HP.out.set 15 _).below (below_drawn (below_new (below_new (Below.refl _ _) _) _)), ⟨by omega, by omega⟩, fun h => ?_⟩
  rw [← HA'.out, if_neg (by omega)]
set_option maxRecDepth 100000 in
set_option maxHeartbeats 4000000 in
theorem serve_1 (W : World) (g : Nat) (A B room : Int) (la : Option Addr) (lc : Nat) (v0 v7 : Int) (s : Nat) (b o n c : Nat) (lo : Value) (now : Int) (dr : Value) (x : Ea.Item) (hp : Blk W g (pairList A B room la lc v0 v7 s lo (.slice (some ⟨b, o, none⟩) n c) now dr)) (hr : W.rangeAt b o (itemList x)) (hn : 0 < n) (hc : n ≤ c) (hs : c ≤ 100000) :
    Calls Tryd.prog 43 #[.pointer (some ⟨g, 0, none⟩), .int .i64 1] W fun e V => e = .returned (.agg (itemList x).toArray) ∧ W.grownBy V (some g) ∧ ∃ a' c', Blk V g (pairList A B room la lc v0 v7 s lo (.slice a' (n - 1) c') now dr) ∧ (n - 1 ≤ c' ∧ c' ≤ 100000) ∧ (0 < n - 1 → a' = some ⟨b, o + 9, none⟩) := by
  have k1 := hp.cell 16 rfl
  have f1 := hp.frozen ⟨g, 16, none⟩ rfl
  have lt := hp.lt
  have HP := Lib.hid hp
  have HR := Lib.hid hr
  clear hp hr
  go_enter Tryd.func43, Tryd.ntmps43
  have hn1 : (1 : Int) ≤ n := by omega
  have hn2 : 1 ≤ n := hn
  have HA := Lib.hid (below_new (Below.refl W.heap.size W) (.cells zeroItem.toArray 51))
  go_wp2_with (first | (refine wpList_load_mid rfl 51 _ rfl b o (by first | rfl | exact congrArg (fun x => Value.pointer (some x)) (Addr.add_mid _ _ _)) (itemList x) _ (rangeAt_below HR.out HA.out) Tryd.underlying51 rfl (by kernel_rfl) ?_) | (refine wpList_store_new rfl 51 _ _ rfl _ (itemList x).toArray (by simp only [World.size_alloc]) rfl (by kernel_rfl) rfl rfl ?_))
  refine wp_region_still_tail 12 (by kernel_rfl) (by kernel_rfl) ?_
  simp only [List.take_succ_cons, List.take_zero, List.drop_succ_cons, List.drop_zero]
  change wpStill _ _ (World.drew _) _ _ _
  repeat still_step
  refine wpStill_nil ?_
  change wpList _ _ _ _ _ (World.drew _)
  obtain ⟨a', ha'⟩ : ∃ a', (if c = 1 then some (⟨b, o, none⟩ : Addr) else some ⟨b, o + 9, none⟩) = a' := ⟨_, rfl⟩
  rw [ha']
  have HA' := Lib.hid ha'
  clear ha'
  go_wp2_with (first | (refine wpList_load_mid rfl 51 _ rfl (W.heap.size + 1) 0 rfl (itemList x) _ (Blk.range (Blk.below (Blk.kept (blk_new_at (W.alloc (.cells zeroItem.toArray 51)) (itemList x).toArray 51 (by simp only [World.size_alloc])) (grown_set _ ⟨g, 16, none⟩ (.slice a' (n - 1) (c - 1))) (by simp; omega)) (below_drawn (Below.refl _ _)))) Tryd.underlying51 rfl (by kernel_rfl) ?_))
  refine bodyPost_ret (results_c Tryd.results43 rfl (run_loadVar_mid _ W.heap.size 0 51 (itemList x) _ ((blk_new_at _ (itemList x).toArray 51 (by simp only [World.size_setCell])).below (below_drawn (below_new (Below.refl _ _) _))).range Tryd.underlying51 rfl (by kernel_rfl))) rfl ?_
  refine ⟨rfl, grown_trans (grown_set W ⟨g, 16, none⟩ _) (grown_below (below_drawn (below_new (below_new (Below.refl _ _) _) _)) _), a', c - 1, (HP.out.set 16 _).below (below_drawn (below_new (below_new (Below.refl _ _) _) _)), ⟨by omega, by omega⟩, fun h => ?_⟩
  rw [← HA'.out, if_neg (by omega)]
end Go.Proofs.YtdecclklenaoaaaDoor
