/- The queues of the examples at the head of the statements on package early. -/
import Derived.Test.YtfeemiamjmmolaaDoorEaState
namespace Go.Proofs.YtfeemiamjmmolaaDoor
open Go.RowKit

/-- The packets of the examples. -/
def exItem (k : Nat) : Ea.Item := ⟨⟨0, 0, k, 0, 100, 0, false, false⟩, 0⟩
def exList (k : Nat) : List Ea.Item := (List.range k).map exItem
theorem exList_succ (k : Nat) : exList (k + 1) = exList k ++ [exItem k] := by
  unfold exList
  rw [List.range_succ, List.map_append, List.map_singleton]
theorem exList_length (k : Nat) : (exList k).length = k := by simp [exList]
def QueueGives (w : World) (room : Int) (k : Nat) (e : Ending) (V : World) : Prop :=
  ∃ ad, e = .returned (.agg #[.int .i64 2, .int .i64 2, .int .i64 4, .int .i64 0, .int .i64 room, .slice (some ad) 1 1, .int .i64 0, .int .i64 0, .int .i64 0, .int .i64 0, .int .i64 0, .int .i64 0, .int .i64 0, .int .i64 0, .int .u64 0]) ∧ Below w.heap.size w V ∧ HoldsL V ad (exList k)
set_option maxRecDepth 100000 in
set_option maxHeartbeats 4000000 in
theorem queue_any (room : Int) (many : Nat) (w : World) (hm : many ≤ 10) :
    Calls Tryd.prog 16 #[.int .i64 room, .int .i64 (many : Int)] w (QueueGives w room many) := by
  go_enter Tryd.func16, Tryd.ntmps16
  go_wp2
  go_loopw [6] (fun i wr => ∃ k : Nat, k ≤ many ∧ i = .int .i64 k ∧ ∃ (a : Option Addr) (c : Nat), Blk wr (w.heap.size + 1 + 1 + 1) (qList 2 4 0 room (some ⟨w.heap.size + 1 + 1, 0, none⟩) 1 1 0 0 0) ∧ Blk wr w.heap.size zeroQ ∧ Blk wr (w.heap.size + 1 + 1) [.slice a k c] ∧ OwnL wr (w.heap.size + 1) a k c (exList k) ∧ Below w.heap.size w wr) (fun i _ => many - (intOf i).toNat)
  case atStart =>
    exact ⟨0, Nat.zero_le _, rfl, some ⟨w.heap.size + 1, 0, none⟩, 0, blk_new_at _ (qList 2 4 0 room (some ⟨w.heap.size + 1 + 1, 0, none⟩) 1 1 0 0 0).toArray _ (by simp), (Blk.new w zeroQ.toArray _).below (below_new (below_new (below_new (Below.refl _ _) _) _) _), (blk_new_at ((w.alloc _).alloc _) #[.slice (some ⟨w.heap.size + 1, 0, none⟩) 0 0] _ (by simp)).below (below_new (Below.refl _ _) _), Or.inl ⟨rfl, rfl, rfl⟩, below_new (below_new (below_new (below_new (Below.refl _ _) _) _) _) _⟩
  case round =>
    obtain ⟨k, hk, rfl, a, c, hq, hrs, hl, how, hb⟩ := hrel
    have HQ := Lib.hid hq
    have HRS := Lib.hid hrs
    have HL := Lib.hid hl
    have HOW := Lib.hid how
    have HB := Lib.hid hb
    have hz := hq.lt
    have hzs := hrs.lt
    have hzl := hl.lt
    have q5 := hq.cell 5 rfl
    clear hq hrs hl how hb
    by_cases hlt : k < many
    · have l0 := HL.out.cell 0 rfl
      go_wp2
      refine wp_region_held_drew (S := (fun V => V.cell? ⟨w.heap.size + 1 + 1 + 1, 5, none⟩ = some (.slice (some ⟨w.heap.size + 1 + 1, 0, none⟩) 1 1))) (by kernel_rfl) ?_ (fun hHeld => ?_)
      · exact HQ.out.cell 5 rfl
      refine wpAnyH_take (i := 0) (v := ?_) rfl (by kernel_rfl) (by kernel_rfl) (by kernel_rfl) (fun _ _ _ h => h) (Or.inl ⟨by rfl, ?_⟩) hHeld ?_
      rotate_left
      · intro wS hSw; obtain hS0 := hSw; go_simp; try with_reducible rfl
      try go_simp
      refine wpAnyH_take (i := 1) (v := ?_) rfl (by kernel_rfl) (by kernel_rfl) (by kernel_rfl) (fun _ _ _ h => h) (Or.inl ⟨by rfl, ?_⟩) hHeld ?_
      rotate_left
      · intro wS hSw; obtain hS0 := hSw; go_simp; try with_reducible rfl
      try go_simp
      refine wpAnyH_take (i := 2) (v := ?_) rfl (by kernel_rfl) (by kernel_rfl) (by kernel_rfl) (fun _ _ _ h => h) (Or.inl ⟨by rfl, ?_⟩) hHeld ?_
      rotate_left
      · intro wS hSw; obtain hS0 := hSw; go_simp; try with_reducible rfl
      try go_simp
      refine wpAnyH_take (i := 3) (v := ?_) rfl (by kernel_rfl) (by kernel_rfl) (by kernel_rfl) (fun _ _ _ h => h) (Or.inl ⟨by rfl, ?_⟩) hHeld ?_
      rotate_left
      · intro wS hSw; obtain hS0 := hSw; go_simp; try with_reducible rfl
      try go_simp
      refine wpAnyH_take (i := 4) (v := ?_) rfl (by kernel_rfl) (by kernel_rfl) (by kernel_rfl) (fun _ _ _ h => h) (Or.inl ⟨by rfl, ?_⟩) hHeld ?_
      rotate_left
      · intro wS hSw; obtain hS0 := hSw; go_simp; try with_reducible rfl
      try go_simp
      refine wpAnyH_take (i := 6) (v := ?_) rfl (by kernel_rfl) (by kernel_rfl) (by kernel_rfl) (fun _ _ _ h => h) (Or.inl ⟨by rfl, ?_⟩) hHeld ?_
      rotate_left
      · intro wS hSw; obtain hS0 := hSw; go_simp; try with_reducible rfl
      try go_simp
      refine wpAnyH_take (i := 7) (v := ?_) rfl (by kernel_rfl) (by kernel_rfl) (by kernel_rfl) (fun _ _ _ h => h) (Or.inl ⟨by rfl, ?_⟩) hHeld ?_
      rotate_left
      · intro wS hSw; obtain hS0 := hSw; go_simp; try with_reducible rfl
      try go_simp
      refine wpAnyH_take (i := 8) (v := ?_) rfl (by kernel_rfl) (by kernel_rfl) (by kernel_rfl) (fun _ _ _ h => h) (Or.inl ⟨by rfl, ?_⟩) hHeld ?_
      rotate_left
      · intro wS hSw; obtain hS0 := hSw; go_simp; try with_reducible rfl
      try go_simp
      refine wpAnyH_ready (rs := [5, 9]) (by kernel_rfl) (by simp) ?_
      refine AllReadyH.cons rfl (fun K hK => ?_) (AllReadyH.cons rfl (fun K hK => ?_) AllReadyH.nil)
      · go_simp
        refine hK.out _ _ ?_ (fun hHeld => ?_)
        · exact hHeld
        clear hK K
        try go_simp
        refine wpAnyH_ready (rs := [9]) (by kernel_rfl) (by simp) ?_
        refine AllReadyH.cons rfl (fun K hK => ?_) AllReadyH.nil
        go_simp
        refine hK.out _ _ ?_ (fun hHeld => ?_)
        · exact (HQ.out.below (by exact below_new (below_drawn (Below.refl _ _)) _)).cell 5 rfl
        clear hK K
        try go_simp
        refine wpAnyH_ready (rs := [10]) (by kernel_rfl) (by simp) ?_
        refine AllReadyH.cons rfl (fun K hK => ?_) AllReadyH.nil
        refine ready_add_item (by rfl) _ _ _ rfl rfl (HOW.out.below (by exact below_new (below_drawn (Below.refl _ _)) _)) (by simp; omega) wr.heap.size 0 (exItem k) rfl (by exact (Blk.new wr (itemList (exItem k)).toArray 37).range) (by omega) ?_
        intro g' c' row V5 hown5 hgr5 hrow5
        have hl5 := blk_thru HL.out hgr5 (HOW.out.row_ne hrow5 (j := 0) (by omega) (HL.out.cell 0 rfl)) (by exact below_new (below_drawn (Below.refl _ _)) _)
        have c5 := hl5.cell 0 rfl
        have f5 := hl5.frozen ⟨w.heap.size + 1 + 1, 0, none⟩ rfl
        refine hK.out _ _ ?_ (fun hHeld => ?_)
        · exact hgr5.cell hHeld (HOW.out.row_ne hrow5 (j := 5) (by omega) (HQ.out.cell 5 rfl))
        clear hK K
        try go_simp
        refine wpAnyH_take (i := 11) (v := ?_) rfl (by kernel_rfl) (by kernel_rfl) (by kernel_rfl) (fun _ _ _ h => h) (Or.inl ⟨by rfl, ?_⟩) hHeld ?_
        rotate_left
        · intro wS hSw; obtain hS0 := hSw; go_simp; try with_reducible rfl
        try go_simp
        refine wpAnyH_ready (rs := [12]) (by kernel_rfl) (by simp) ?_
        refine AllReadyH.cons rfl (fun K hK => ?_) AllReadyH.nil
        go_simp
        refine hK.out _ _ ?_ (fun hHeld => ?_)
        · exact cell_apart hHeld (by simp)
        clear hK K
        try go_simp
        refine wpAnyH_done (by kernel_rfl) ?_ _
        clear hHeld
        have hq6 := (blk_thru HQ.out hgr5 (HOW.out.row_ne hrow5 (j := 5) (by omega) (HQ.out.cell 5 rfl)) (by exact below_new (below_drawn (Below.refl _ _)) _)).kept (grown_set V5 ⟨w.heap.size + 1 + 1, 0, none⟩ (.slice (some ⟨g', 0, none⟩) (k + 1) c')) (by simp)
        have hr6 := (blk_thru HRS.out hgr5 (fun e => by have := HOW.out.row_low hrow5 _ e.symm; omega) (by exact below_new (below_drawn (Below.refl _ _)) _)).kept (grown_set V5 ⟨w.heap.size + 1 + 1, 0, none⟩ (.slice (some ⟨g', 0, none⟩) (k + 1) c')) (by simp; omega)
        have hl6 : Blk (V5.setCell ⟨w.heap.size + 1 + 1, 0, none⟩ (.slice (some ⟨g', 0, none⟩) (k + 1) c')) (w.heap.size + 1 + 1) [.slice (some ⟨g', 0, none⟩) (k + 1) c'] := hl5.set 0 _
        have ho6 : OwnL (V5.setCell ⟨w.heap.size + 1 + 1, 0, none⟩ (.slice (some ⟨g', 0, none⟩) (k + 1) c')) (w.heap.size + 1) (some ⟨g', 0, none⟩) (k + 1) c' (exList k ++ [exItem k]) := OwnL.kept' (Or.inr ⟨by omega, hown5⟩) (grown_set _ ⟨w.heap.size + 1 + 1, 0, none⟩ _) (j := 0) (by omega) c5
        have hb6 : Below w.heap.size w (V5.setCell ⟨w.heap.size + 1 + 1, 0, none⟩ (.slice (some ⟨g', 0, none⟩) (k + 1) c')) := below_set (below_grown (below_on HB.out (by exact below_new (below_drawn (Below.refl _ _)) _)) hgr5 (fun j hj => by have := HOW.out.row_low hrow5 _ hj; omega)) (by simp; omega) _
        have HQ6 := Lib.hid hq6
        have HR6 := Lib.hid hr6
        have HL6 := Lib.hid hl6
        have HO6 := Lib.hid ho6
        have HB6 := Lib.hid hb6
        clear hq6 hr6 hl6 ho6 hb6 c5 f5 hl5 hown5 hgr5 hrow5 l0
        go_wp2
        go_roundw
        case rel => exact ⟨k + 1, by omega, by go_num, _, _, HQ6.out, HR6.out, HL6.out, by rw [exList_succ]; exact HO6.out, HB6.out⟩
        case measure => simp [intOf]; omega
      · go_simp
        refine hK.out _ _ ?_ (fun hHeld => ?_)
        · exact (HQ.out.below (by exact below_new (below_drawn (Below.refl _ _)) _)).cell 5 rfl
        clear hK K
        try go_simp
        refine wpAnyH_ready (rs := [5]) (by kernel_rfl) (by simp) ?_
        refine AllReadyH.cons rfl (fun K hK => ?_) AllReadyH.nil
        go_simp
        refine hK.out _ _ ?_ (fun hHeld => ?_)
        · exact hHeld
        clear hK K
        try go_simp
        refine wpAnyH_ready (rs := [10]) (by kernel_rfl) (by simp) ?_
        refine AllReadyH.cons rfl (fun K hK => ?_) AllReadyH.nil
        refine ready_add_item (by rfl) _ _ _ rfl rfl (HOW.out.below (by exact below_new (below_drawn (Below.refl _ _)) _)) (by simp; omega) wr.heap.size 0 (exItem k) rfl (by exact (Blk.new wr (itemList (exItem k)).toArray 37).range) (by omega) ?_
        intro g' c' row V5 hown5 hgr5 hrow5
        have hl5 := blk_thru HL.out hgr5 (HOW.out.row_ne hrow5 (j := 0) (by omega) (HL.out.cell 0 rfl)) (by exact below_new (below_drawn (Below.refl _ _)) _)
        have c5 := hl5.cell 0 rfl
        have f5 := hl5.frozen ⟨w.heap.size + 1 + 1, 0, none⟩ rfl
        refine hK.out _ _ ?_ (fun hHeld => ?_)
        · exact hgr5.cell hHeld (HOW.out.row_ne hrow5 (j := 5) (by omega) (HQ.out.cell 5 rfl))
        clear hK K
        try go_simp
        refine wpAnyH_take (i := 11) (v := ?_) rfl (by kernel_rfl) (by kernel_rfl) (by kernel_rfl) (fun _ _ _ h => h) (Or.inl ⟨by rfl, ?_⟩) hHeld ?_
        rotate_left
        · intro wS hSw; obtain hS0 := hSw; go_simp; try with_reducible rfl
        try go_simp
        refine wpAnyH_ready (rs := [12]) (by kernel_rfl) (by simp) ?_
        refine AllReadyH.cons rfl (fun K hK => ?_) AllReadyH.nil
        go_simp
        refine hK.out _ _ ?_ (fun hHeld => ?_)
        · exact cell_apart hHeld (by simp)
        clear hK K
        try go_simp
        refine wpAnyH_done (by kernel_rfl) ?_ _
        clear hHeld
        have hq6 := (blk_thru HQ.out hgr5 (HOW.out.row_ne hrow5 (j := 5) (by omega) (HQ.out.cell 5 rfl)) (by exact below_new (below_drawn (Below.refl _ _)) _)).kept (grown_set V5 ⟨w.heap.size + 1 + 1, 0, none⟩ (.slice (some ⟨g', 0, none⟩) (k + 1) c')) (by simp)
        have hr6 := (blk_thru HRS.out hgr5 (fun e => by have := HOW.out.row_low hrow5 _ e.symm; omega) (by exact below_new (below_drawn (Below.refl _ _)) _)).kept (grown_set V5 ⟨w.heap.size + 1 + 1, 0, none⟩ (.slice (some ⟨g', 0, none⟩) (k + 1) c')) (by simp; omega)
        have hl6 : Blk (V5.setCell ⟨w.heap.size + 1 + 1, 0, none⟩ (.slice (some ⟨g', 0, none⟩) (k + 1) c')) (w.heap.size + 1 + 1) [.slice (some ⟨g', 0, none⟩) (k + 1) c'] := hl5.set 0 _
        have ho6 : OwnL (V5.setCell ⟨w.heap.size + 1 + 1, 0, none⟩ (.slice (some ⟨g', 0, none⟩) (k + 1) c')) (w.heap.size + 1) (some ⟨g', 0, none⟩) (k + 1) c' (exList k ++ [exItem k]) := OwnL.kept' (Or.inr ⟨by omega, hown5⟩) (grown_set _ ⟨w.heap.size + 1 + 1, 0, none⟩ _) (j := 0) (by omega) c5
        have hb6 : Below w.heap.size w (V5.setCell ⟨w.heap.size + 1 + 1, 0, none⟩ (.slice (some ⟨g', 0, none⟩) (k + 1) c')) := below_set (below_grown (below_on HB.out (by exact below_new (below_drawn (Below.refl _ _)) _)) hgr5 (fun j hj => by have := HOW.out.row_low hrow5 _ hj; omega)) (by simp; omega) _
        have HQ6 := Lib.hid hq6
        have HR6 := Lib.hid hr6
        have HL6 := Lib.hid hl6
        have HO6 := Lib.hid ho6
        have HB6 := Lib.hid hb6
        clear hq6 hr6 hl6 ho6 hb6 c5 f5 hl5 hown5 hgr5 hrow5 l0
        go_wp2
        go_roundw
        case rel => exact ⟨k + 1, by omega, by go_num, _, _, HQ6.out, HR6.out, HL6.out, by rw [exList_succ]; exact HO6.out, HB6.out⟩
        case measure => simp [intOf]; omega
    · obtain rfl : k = many := by omega
      go_wp2_with (first | (refine wpList_load_mid rfl 28 _ rfl (w.heap.size + 1 + 1 + 1) 0 rfl (qList 2 4 0 room (some ⟨w.heap.size + 1 + 1, 0, none⟩) 1 1 0 0 0) _ HQ.out.range Tryd.underlying28 rfl (by kernel_rfl) ?_) | (refine wpList_store_blk rfl 28 _ _ rfl w.heap.size zeroQ (qList 2 4 0 room (some ⟨w.heap.size + 1 + 1, 0, none⟩) 1 1 0 0 0) rfl rfl HRS.out (by kernel_rfl) rfl (qList_one _ _ _ _ _ _ _ _ _ _) ?_; intro V7 hq7 hg7))
      refine bodyPost_ret (results_c Tryd.results16 rfl (run_loadVar_mid _ w.heap.size 0 28 (qList 2 4 0 room (some ⟨w.heap.size + 1 + 1, 0, none⟩) 1 1 0 0 0) _ hq7.range Tryd.underlying28 rfl (by kernel_rfl))) rfl ?_
      have h1 := (HL.out.kept hg7 (by simp; omega)).cell 0 rfl
      have h2 := (HOW.out.kept' hg7 (j := 5) (by omega) (HRS.out.cell 5 rfl)).rd
      exact ⟨_, rfl, below_grown HB.out hg7 (fun j hj => by injection hj with hj; omega), ⟨a, c, by rw [exList_length]; exact h1, by rw [exList_length]; exact h2⟩⟩
end Go.Proofs.YtfeemiamjmmolaaDoor
