/- Put of package early: a packet that is accepted. -/
import Derived.Test.YtfeemiamjmmolaaDoorEaPut
namespace Go.Proofs.YtfeemiamjmmolaaDoor
open Go.RowKit

set_option maxRecDepth 100000 in
set_option maxHeartbeats 4000000 in
theorem put_plain (A B C room : Int) (ad : Addr) (lc : Nat) (v0 v7 : Int) (s : Nat) (a : Option Addr) (n c : Nat) (xs : List Ea.Item) (w : World) (hc : w.cell? ad = some (.slice a n c)) (hr : RdQ w a n xs) (hn : (n : Int) ≤ 9223372036854775807) (hq : QOk A B C room v0 v7 xs) (ht : Table w) (p : Ea.Pkt) (hp : p.ok) (now : Int) (h0 : v7 ≤ now) (h1 : now ≤ 10000000) (s1 : Nat) (hv : Ea.verdict A B n room (Ea.avg v0 n (2 ^ C.toNat)) s = (0, s1)) :
    Calls Tryd.prog 13 #[.agg #[.int .i64 2, .int .i64 A, .int .i64 B, .int .i64 C, .int .i64 room, .slice (some ad) 1 lc, .int .i64 v0, .int .i64 0, .int .i64 0, .int .i64 0, .int .i64 0, .int .i64 0, .int .i64 0, .int .i64 v7, .int .u64 (s : Int)], pktVal p, .int .i64 now] w (PutSays w A B C room (Ea.avg v0 n (2 ^ C.toNat)) now s1 (n + 1) (xs ++ [⟨p, now⟩]) none) := by
  have HV := Lib.hid hv
  clear hv
  have hlt := World.block_lt_of_cell? _ _ hc
  have HR := Lib.hid hr
  have HQ := Lib.hid hq
  have HT := Lib.hid ht
  have HP := Lib.hid hp
  have hn6 : n ≤ 600 := by have := hq.len; have := hq.r1; have := hr.1; omega
  have hnow : 0 ≤ now := by have := hq.t0; omega
  clear hr hq ht hp
  go_enter Tryd.func13, Tryd.ntmps13
  go_wp2_with fail
  refine (isPacket_yes p _ HP.out).mono ?_
  rintro e w1 ⟨rfl, hb1⟩
  have hB1 : Below w.heap.size w w1 := below_on (below_new (below_new (below_new (Below.refl _ _) _) _) _) hb1
  have hq1 : Blk w1 w.heap.size [.int .i64 2, .int .i64 A, .int .i64 B, .int .i64 C, .int .i64 room, .slice (some ad) 1 lc, .int .i64 v0, .int .i64 0, .int .i64 0, .int .i64 0, .int .i64 0, .int .i64 0, .int .i64 0, .int .i64 v7, .int .u64 (s : Int)] := ((Blk.new w #[.int .i64 2, .int .i64 A, .int .i64 B, .int .i64 C, .int .i64 room, .slice (some ad) 1 lc, .int .i64 v0, .int .i64 0, .int .i64 0, .int .i64 0, .int .i64 0, .int .i64 0, .int .i64 0, .int .i64 v7, .int .u64 (s : Int)] 28).below (below_new (below_new (Below.refl _ _) _) _)).below hb1
  have hp1 : Blk w1 (w.heap.size + 1) (pktList p) := ((blk_new_at (w.alloc (.cells #[.int .i64 2, .int .i64 A, .int .i64 B, .int .i64 C, .int .i64 room, .slice (some ad) 1 lc, .int .i64 v0, .int .i64 0, .int .i64 0, .int .i64 0, .int .i64 0, .int .i64 0, .int .i64 0, .int .i64 v7, .int .u64 (s : Int)] 28)) (pktList p).toArray 35 (by simp)).below (below_new (Below.refl _ _) _)).below hb1
  have hr1 : Blk w1 (w.heap.size + 1 + 1) zeroQ := (blk_new_at ((w.alloc (.cells #[.int .i64 2, .int .i64 A, .int .i64 B, .int .i64 C, .int .i64 room, .slice (some ad) 1 lc, .int .i64 v0, .int .i64 0, .int .i64 0, .int .i64 0, .int .i64 0, .int .i64 0, .int .i64 0, .int .i64 v7, .int .u64 (s : Int)] 28)).alloc (.cells (pktList p).toArray 35)) zeroQ.toArray 28 (by simp)).below hb1
  have hz1 := hr1.lt
  have HB1 := Lib.hid hB1
  have HQ1 := Lib.hid hq1
  have HP1 := Lib.hid hp1
  have HR1 := Lib.hid hr1
  clear hB1 hq1 hp1 hr1 hb1
  go_wp2_with (refine wpList_load_mid rfl 28 _ rfl w.heap.size 0 rfl [.int .i64 2, .int .i64 A, .int .i64 B, .int .i64 C, .int .i64 room, .slice (some ad) 1 lc, .int .i64 v0, .int .i64 0, .int .i64 0, .int .i64 0, .int .i64 0, .int .i64 0, .int .i64 0, .int .i64 v7, .int .u64 (s : Int)] _ HQ1.out.range Tryd.underlying28 rfl (by kernel_rfl) ?_)
  refine (open_yes A B C room ad lc v0 v7 s a n c xs w1 (below_cell_of HB1.out hc) (HR.out.below HB1.out) hn HQ.out now h0 h1).mono ?_
  rintro e w2 ⟨g, g1, a2, c2, rfl, hO⟩
  have HP2 := Lib.hid (HP1.out.below hO.below)
  have HR2 := Lib.hid (HR1.out.below hO.below)
  have hg2 : w.heap.size + 1 + 1 < g := Nat.lt_of_lt_of_le hz1 hO.hg
  have hg12 : w.heap.size + 1 + 1 < g1 := Nat.lt_of_lt_of_le hz1 hO.hg1
  have HO := Lib.hid hO
  clear hO HQ1 HP1 HR1
  go_wp2_with fail
  refine (update_any g g1 A B C room v0 now s a2 n c2 w2 HO.out.q HO.out.l hn6 HQ.out.c0 HQ.out.c1 HQ.out.w0 HQ.out.w1).mono ?_
  rintro e w3 ⟨rfl, hgr3, hq3⟩
  have HP3 := Lib.hid (HP2.out.kept hgr3 (by simp; omega))
  have HR3 := Lib.hid (HR2.out.kept hgr3 (by simp; omega))
  have HL3 := Lib.hid (HO.out.l.kept hgr3 (by simp; exact fun e => HO.out.ne e.symm))
  have HOW3 := Lib.hid (HO.out.own.kept' hgr3 (j := 5) (by omega) (HO.out.q.cell 5 rfl))
  have HB3 := Lib.hid (below_grown (below_on HB1.out HO.out.below) hgr3 (fun k hk => by injection hk with hk; omega))
  have HQ3 := Lib.hid hq3
  have hne := HO.out.ne
  have hz2 : w1.heap.size ≤ w3.heap.size := Nat.le_trans HO.out.below.size hgr3.size
  clear hgr3 hq3 HP2 HR2 HO HB1
  go_wp2_with fail
  refine (decide_any g g1 A B C room (Ea.avg v0 n (2 ^ C.toNat)) now s a2 n c2 w3 (table_below HT.out HB3.out) HQ3.out HL3.out HQ.out.a0 HQ.out.ab HQ.out.b1 (avg_in HQ.out hn6).1 (avg_in HQ.out hn6).2).mono ?_
  unfold DecideSays
  rw [HV.out]
  rintro e w4 ⟨rfl, hgr4, hq4⟩
  have HP4 := Lib.hid (HP3.out.kept hgr4 (by simp; omega))
  have HR4 := Lib.hid (HR3.out.kept hgr4 (by simp; omega))
  have HL4 := Lib.hid (HL3.out.kept hgr4 (by simp; exact fun e => hne e.symm))
  have HOW4 := Lib.hid (HOW3.out.kept' hgr4 (j := 5) (by omega) (HQ3.out.cell 5 rfl))
  have HB4 := Lib.hid (below_grown HB3.out hgr4 (fun k hk => by injection hk with hk; omega))
  have HQ4 := Lib.hid hq4
  have hz4 : w1.heap.size ≤ w4.heap.size := Nat.le_trans hz2 hgr4.size
  clear hgr4 hq4 HP3 HR3 HL3 HOW3 HB3 HQ3 hz2
  go_wp2_with fail
  have HL := HL4
  have HPK := HP4
  have HOW := HOW4
  clear HL4 HP4 HOW4
  have l0 := HL.out.cell 0 rfl
  have hlg1 := HL.out.lt
  refine wp_region_held_drew (S := (fun V => V.rangeAt (w.heap.size + 1) 0 (pktList p) ∧ V.cell? ⟨g, 5, none⟩ = some (.slice (some ⟨g1, 0, none⟩) 1 1))) (by kernel_rfl) ?_ (fun hHeld => ?_)
  · exact ⟨HPK.out.range, HQ4.out.cell 5 rfl⟩
  refine wpAnyH_take (i := 12) (v := (.agg (pktList p).toArray)) rfl (by kernel_rfl) (by kernel_rfl) (by kernel_rfl) (fun _ _ _ h => h) (yieldsIf_load_mid (by rfl) 35 _ rfl (w.heap.size + 1) 0 rfl (pktList p) _ (fun _ h => h.1) Tryd.underlying35 rfl (by kernel_rfl)) hHeld ?_
  try go_simp
  refine wpAnyH_take (i := 0) (v := ?_) rfl (by kernel_rfl) (by kernel_rfl) (by kernel_rfl) (fun _ _ _ h => h) (Or.inl ⟨by rfl, ?_⟩) hHeld ?_
  rotate_left
  · intro wS hSw; obtain ⟨hS0, hS1⟩ := hSw; go_simp; try with_reducible rfl
  try go_simp
  refine wpAnyH_take (i := 1) (v := ?_) rfl (by kernel_rfl) (by kernel_rfl) (by kernel_rfl) (fun _ _ _ h => h) (Or.inl ⟨by rfl, ?_⟩) hHeld ?_
  rotate_left
  · intro wS hSw; obtain ⟨hS0, hS1⟩ := hSw; go_simp; try with_reducible rfl
  try go_simp
  refine wpAnyH_take (i := 2) (v := ?_) rfl (by kernel_rfl) (by kernel_rfl) (by kernel_rfl) (fun _ _ _ h => h) (Or.inl ⟨by rfl, ?_⟩) hHeld ?_
  rotate_left
  · intro wS hSw; obtain ⟨hS0, hS1⟩ := hSw; go_simp; try with_reducible rfl
  try go_simp
  refine wpAnyH_take (i := 3) (v := ?_) rfl (by kernel_rfl) (by kernel_rfl) (by kernel_rfl) (fun _ _ _ h => h) (Or.inl ⟨by rfl, ?_⟩) hHeld ?_
  rotate_left
  · intro wS hSw; obtain ⟨hS0, hS1⟩ := hSw; go_simp; try with_reducible rfl
  try go_simp
  refine wpAnyH_take (i := 4) (v := ?_) rfl (by kernel_rfl) (by kernel_rfl) (by kernel_rfl) (fun _ _ _ h => h) (Or.inl ⟨by rfl, ?_⟩) hHeld ?_
  rotate_left
  · intro wS hSw; obtain ⟨hS0, hS1⟩ := hSw; go_simp; try with_reducible rfl
  try go_simp
  refine wpAnyH_take (i := 5) (v := ?_) rfl (by kernel_rfl) (by kernel_rfl) (by kernel_rfl) (fun _ _ _ h => h) (Or.inl ⟨by rfl, ?_⟩) hHeld ?_
  rotate_left
  · intro wS hSw; obtain ⟨hS0, hS1⟩ := hSw; go_simp; try with_reducible rfl
  try go_simp
  refine wpAnyH_take (i := 6) (v := ?_) rfl (by kernel_rfl) (by kernel_rfl) (by kernel_rfl) (fun _ _ _ h => h) (Or.inl ⟨by rfl, ?_⟩) hHeld ?_
  rotate_left
  · intro wS hSw; obtain ⟨hS0, hS1⟩ := hSw; go_simp; try with_reducible rfl
  try go_simp
  refine wpAnyH_take (i := 7) (v := ?_) rfl (by kernel_rfl) (by kernel_rfl) (by kernel_rfl) (fun _ _ _ h => h) (Or.inl ⟨by rfl, ?_⟩) hHeld ?_
  rotate_left
  · intro wS hSw; obtain ⟨hS0, hS1⟩ := hSw; go_simp; try with_reducible rfl
  try go_simp
  refine wpAnyH_take (i := 8) (v := ?_) rfl (by kernel_rfl) (by kernel_rfl) (by kernel_rfl) (fun _ _ _ h => h) (Or.inl ⟨by rfl, ?_⟩) hHeld ?_
  rotate_left
  · intro wS hSw; obtain ⟨hS0, hS1⟩ := hSw; go_simp; try with_reducible rfl
  try go_simp
  refine wpAnyH_take (i := 9) (v := ?_) rfl (by kernel_rfl) (by kernel_rfl) (by kernel_rfl) (fun _ _ _ h => h) (Or.inl ⟨by rfl, ?_⟩) hHeld ?_
  rotate_left
  · intro wS hSw; obtain ⟨hS0, hS1⟩ := hSw; go_simp; try with_reducible rfl
  try go_simp
  refine wpAnyH_take (i := 10) (v := ?_) rfl (by kernel_rfl) (by kernel_rfl) (by kernel_rfl) (fun _ _ _ h => h) (Or.inl ⟨by rfl, ?_⟩) hHeld ?_
  rotate_left
  · intro wS hSw; obtain ⟨hS0, hS1⟩ := hSw; go_simp; try with_reducible rfl
  try go_simp
  refine wpAnyH_take (i := 13) (v := ?_) rfl (by kernel_rfl) (by kernel_rfl) (by kernel_rfl) (fun _ _ _ h => h) (Or.inl ⟨by rfl, ?_⟩) hHeld ?_
  rotate_left
  · intro wS hSw; obtain ⟨hS0, hS1⟩ := hSw; go_simp; try with_reducible rfl
  try go_simp
  refine wpAnyH_take (i := 14) (v := ?_) rfl (by kernel_rfl) (by kernel_rfl) (by kernel_rfl) (fun _ _ _ h => h) (Or.inl ⟨by rfl, ?_⟩) hHeld ?_
  rotate_left
  · intro wS hSw; obtain ⟨hS0, hS1⟩ := hSw; go_simp; try with_reducible rfl
  try go_simp
  refine wpAnyH_ready (rs := [11, 15]) (by kernel_rfl) (by simp) ?_
  refine AllReadyH.cons rfl (fun K hK => ?_) (AllReadyH.cons rfl (fun K hK => ?_) AllReadyH.nil)
  · go_simp
    refine hK.out _ _ ?_ (fun hHeld => ?_)
    · exact hHeld
    clear hK K
    try go_simp
    refine wpAnyH_ready (rs := [15]) (by kernel_rfl) (by simp) ?_
    refine AllReadyH.cons rfl (fun K hK => ?_) AllReadyH.nil
    go_simp
    refine hK.out _ _ ?_ (fun hHeld => ?_)
    · exact ⟨(HPK.out.below (by exact below_new (below_drawn (Below.refl _ _)) _)).range, (HQ4.out.below (by exact below_new (below_drawn (Below.refl _ _)) _)).cell 5 rfl⟩
    clear hK K
    try go_simp
    refine wpAnyH_ready (rs := [16]) (by kernel_rfl) (by simp) ?_
    refine AllReadyH.cons rfl (fun K hK => ?_) AllReadyH.nil
    refine ready_add_item (by rfl) _ _ _ rfl rfl (HOW.out.below (by exact below_new (below_drawn (Below.refl _ _)) _)) (by simp; omega) w4.heap.size 0 ⟨p, now⟩ rfl (by exact (Blk.new w4 (itemList ⟨p, now⟩).toArray 37).range) hn6 ?_
    intro g' c' row V5 hown5 hgr5 hrow5
    have hl5 := blk_thru HL.out hgr5 (HOW.out.row_ne hrow5 (j := 0) (by omega) (HL.out.cell 0 rfl)) (by exact below_new (below_drawn (Below.refl _ _)) _)
    have c5 := hl5.cell 0 rfl
    have f5 := hl5.frozen ⟨g1, 0, none⟩ rfl
    refine hK.out _ _ ?_ (fun hHeld => ?_)
    · exact ⟨rangeAt_kept hHeld.1 hgr5 (fun e => by have := HOW.out.row_low hrow5 _ e.symm; omega), hgr5.cell hHeld.2 (HOW.out.row_ne hrow5 (j := 5) (by omega) (HQ4.out.cell 5 rfl))⟩
    clear hK K
    try go_simp
    refine wpAnyH_take (i := 17) (v := ?_) rfl (by kernel_rfl) (by kernel_rfl) (by kernel_rfl) (fun _ _ _ h => h) (Or.inl ⟨by rfl, ?_⟩) hHeld ?_
    rotate_left
    · intro wS hSw; obtain ⟨hS0, hS1⟩ := hSw; go_simp; try with_reducible rfl
    try go_simp
    refine wpAnyH_ready (rs := [18]) (by kernel_rfl) (by simp) ?_
    refine AllReadyH.cons rfl (fun K hK => ?_) AllReadyH.nil
    go_simp
    refine hK.out _ _ ?_ (fun hHeld => ?_)
    · exact ⟨rangeAt_kept hHeld.1 (grown_set _ ⟨g1, 0, none⟩ _) (by simp; omega), cell_apart hHeld.2 (by simp; exact hne)⟩
    clear hK K
    try go_simp
    refine wpAnyH_done (by kernel_rfl) ?_ _
    have hq6 : Blk (V5.setCell ⟨g1, 0, none⟩ (.slice (some ⟨g', 0, none⟩) (n + 1) c')) g (qList A B C room (some ⟨g1, 0, none⟩) 1 1 (Ea.avg v0 n (2 ^ C.toNat)) now s1) := (blk_thru HQ4.out hgr5 (HOW.out.row_ne hrow5 (j := 5) (by omega) (HQ4.out.cell 5 rfl)) (by exact below_new (below_drawn (Below.refl _ _)) _)).kept (grown_set _ ⟨g1, 0, none⟩ _) (by simp; exact hne)
    have hr6 : Blk (V5.setCell ⟨g1, 0, none⟩ (.slice (some ⟨g', 0, none⟩) (n + 1) c')) (w.heap.size + 1 + 1) zeroQ := (blk_thru HR4.out hgr5 (fun e => by have := HOW.out.row_low hrow5 _ e.symm; omega) (by exact below_new (below_drawn (Below.refl _ _)) _)).kept (grown_set _ ⟨g1, 0, none⟩ _) (by simp; omega)
    have hl6 : Blk (V5.setCell ⟨g1, 0, none⟩ (.slice (some ⟨g', 0, none⟩) (n + 1) c')) g1 [.slice (some ⟨g', 0, none⟩) (n + 1) c'] := hl5.set 0 _
    have ho6 : OwnL (V5.setCell ⟨g1, 0, none⟩ (.slice (some ⟨g', 0, none⟩) (n + 1) c')) w1.heap.size (some ⟨g', 0, none⟩) (n + 1) c' (xs ++ [⟨p, now⟩]) := OwnL.kept' (Or.inr ⟨by omega, hown5⟩) (grown_set _ ⟨g1, 0, none⟩ _) (j := 0) (by omega) c5
    have hb6 : Below w.heap.size w (V5.setCell ⟨g1, 0, none⟩ (.slice (some ⟨g', 0, none⟩) (n + 1) c')) := below_set (below_grown (below_on HB4.out (by exact below_new (below_drawn (Below.refl _ _)) _)) hgr5 (fun k hk => by have := HOW.out.row_low hrow5 _ hk; omega)) (by simp; omega) _
    have HQ6 := Lib.hid hq6
    have HR6 := Lib.hid hr6
    have HL6 := Lib.hid hl6
    have HO6 := Lib.hid ho6
    have HB6 := Lib.hid hb6
    clear hq6 hr6 hl6 ho6 hb6 c5 f5 hl5 hown5 hgr5 hrow5 l0 hHeld
    go_wp2_with (first | (refine wpList_load_mid rfl 28 _ rfl g 0 rfl (qList A B C room (some ⟨g1, 0, none⟩) 1 1 (Ea.avg v0 n (2 ^ C.toNat)) now s1) _ HQ6.out.range Tryd.underlying28 rfl (by kernel_rfl) ?_) | (refine wpList_store_blk rfl 28 _ _ rfl (w.heap.size + 1 + 1) zeroQ (qList A B C room (some ⟨g1, 0, none⟩) 1 1 (Ea.avg v0 n (2 ^ C.toNat)) now s1) rfl rfl HR6.out (by kernel_rfl) rfl (qList_one _ _ _ _ _ _ _ _ _ _) ?_; intro V7 hq7 hg7))
    refine bodyPost_ret (results_c11 Tryd.results13 rfl (run_loadVar_mid _ (w.heap.size + 1 + 1) 0 28 (qList A B C room (some ⟨g1, 0, none⟩) 1 1 (Ea.avg v0 n (2 ^ C.toNat)) now s1) _ hq7.range Tryd.underlying28 rfl (by kernel_rfl))) rfl ?_
    exact ⟨g1, some ⟨g', 0, none⟩, c', _, rfl, below_grown HB6.out hg7 (fun k hk => by injection hk with hk; omega), (HL6.out.kept hg7 (by simp; omega)).cell 0 rfl, (HO6.out.kept' hg7 (j := 5) (by omega) (HR6.out.cell 5 rfl)).rdT, rfl⟩
  · go_simp
    refine hK.out _ _ ?_ (fun hHeld => ?_)
    · exact ⟨(HPK.out.below (by exact below_new (below_drawn (Below.refl _ _)) _)).range, (HQ4.out.below (by exact below_new (below_drawn (Below.refl _ _)) _)).cell 5 rfl⟩
    clear hK K
    try go_simp
    refine wpAnyH_ready (rs := [11]) (by kernel_rfl) (by simp) ?_
    refine AllReadyH.cons rfl (fun K hK => ?_) AllReadyH.nil
    go_simp
    refine hK.out _ _ ?_ (fun hHeld => ?_)
    · exact hHeld
    clear hK K
    try go_simp
    refine wpAnyH_ready (rs := [16]) (by kernel_rfl) (by simp) ?_
    refine AllReadyH.cons rfl (fun K hK => ?_) AllReadyH.nil
    refine ready_add_item (by rfl) _ _ _ rfl rfl (HOW.out.below (by exact below_new (below_drawn (Below.refl _ _)) _)) (by simp; omega) w4.heap.size 0 ⟨p, now⟩ rfl (by exact (Blk.new w4 (itemList ⟨p, now⟩).toArray 37).range) hn6 ?_
    intro g' c' row V5 hown5 hgr5 hrow5
    have hl5 := blk_thru HL.out hgr5 (HOW.out.row_ne hrow5 (j := 0) (by omega) (HL.out.cell 0 rfl)) (by exact below_new (below_drawn (Below.refl _ _)) _)
    have c5 := hl5.cell 0 rfl
    have f5 := hl5.frozen ⟨g1, 0, none⟩ rfl
    refine hK.out _ _ ?_ (fun hHeld => ?_)
    · exact ⟨rangeAt_kept hHeld.1 hgr5 (fun e => by have := HOW.out.row_low hrow5 _ e.symm; omega), hgr5.cell hHeld.2 (HOW.out.row_ne hrow5 (j := 5) (by omega) (HQ4.out.cell 5 rfl))⟩
    clear hK K
    try go_simp
    refine wpAnyH_take (i := 17) (v := ?_) rfl (by kernel_rfl) (by kernel_rfl) (by kernel_rfl) (fun _ _ _ h => h) (Or.inl ⟨by rfl, ?_⟩) hHeld ?_
    rotate_left
    · intro wS hSw; obtain ⟨hS0, hS1⟩ := hSw; go_simp; try with_reducible rfl
    try go_simp
    refine wpAnyH_ready (rs := [18]) (by kernel_rfl) (by simp) ?_
    refine AllReadyH.cons rfl (fun K hK => ?_) AllReadyH.nil
    go_simp
    refine hK.out _ _ ?_ (fun hHeld => ?_)
    · exact ⟨rangeAt_kept hHeld.1 (grown_set _ ⟨g1, 0, none⟩ _) (by simp; omega), cell_apart hHeld.2 (by simp; exact hne)⟩
    clear hK K
    try go_simp
    refine wpAnyH_done (by kernel_rfl) ?_ _
    have hq6 : Blk (V5.setCell ⟨g1, 0, none⟩ (.slice (some ⟨g', 0, none⟩) (n + 1) c')) g (qList A B C room (some ⟨g1, 0, none⟩) 1 1 (Ea.avg v0 n (2 ^ C.toNat)) now s1) := (blk_thru HQ4.out hgr5 (HOW.out.row_ne hrow5 (j := 5) (by omega) (HQ4.out.cell 5 rfl)) (by exact below_new (below_drawn (Below.refl _ _)) _)).kept (grown_set _ ⟨g1, 0, none⟩ _) (by simp; exact hne)
    have hr6 : Blk (V5.setCell ⟨g1, 0, none⟩ (.slice (some ⟨g', 0, none⟩) (n + 1) c')) (w.heap.size + 1 + 1) zeroQ := (blk_thru HR4.out hgr5 (fun e => by have := HOW.out.row_low hrow5 _ e.symm; omega) (by exact below_new (below_drawn (Below.refl _ _)) _)).kept (grown_set _ ⟨g1, 0, none⟩ _) (by simp; omega)
    have hl6 : Blk (V5.setCell ⟨g1, 0, none⟩ (.slice (some ⟨g', 0, none⟩) (n + 1) c')) g1 [.slice (some ⟨g', 0, none⟩) (n + 1) c'] := hl5.set 0 _
    have ho6 : OwnL (V5.setCell ⟨g1, 0, none⟩ (.slice (some ⟨g', 0, none⟩) (n + 1) c')) w1.heap.size (some ⟨g', 0, none⟩) (n + 1) c' (xs ++ [⟨p, now⟩]) := OwnL.kept' (Or.inr ⟨by omega, hown5⟩) (grown_set _ ⟨g1, 0, none⟩ _) (j := 0) (by omega) c5
    have hb6 : Below w.heap.size w (V5.setCell ⟨g1, 0, none⟩ (.slice (some ⟨g', 0, none⟩) (n + 1) c')) := below_set (below_grown (below_on HB4.out (by exact below_new (below_drawn (Below.refl _ _)) _)) hgr5 (fun k hk => by have := HOW.out.row_low hrow5 _ hk; omega)) (by simp; omega) _
    have HQ6 := Lib.hid hq6
    have HR6 := Lib.hid hr6
    have HL6 := Lib.hid hl6
    have HO6 := Lib.hid ho6
    have HB6 := Lib.hid hb6
    clear hq6 hr6 hl6 ho6 hb6 c5 f5 hl5 hown5 hgr5 hrow5 l0 hHeld
    go_wp2_with (first | (refine wpList_load_mid rfl 28 _ rfl g 0 rfl (qList A B C room (some ⟨g1, 0, none⟩) 1 1 (Ea.avg v0 n (2 ^ C.toNat)) now s1) _ HQ6.out.range Tryd.underlying28 rfl (by kernel_rfl) ?_) | (refine wpList_store_blk rfl 28 _ _ rfl (w.heap.size + 1 + 1) zeroQ (qList A B C room (some ⟨g1, 0, none⟩) 1 1 (Ea.avg v0 n (2 ^ C.toNat)) now s1) rfl rfl HR6.out (by kernel_rfl) rfl (qList_one _ _ _ _ _ _ _ _ _ _) ?_; intro V7 hq7 hg7))
    refine bodyPost_ret (results_c11 Tryd.results13 rfl (run_loadVar_mid _ (w.heap.size + 1 + 1) 0 28 (qList A B C room (some ⟨g1, 0, none⟩) 1 1 (Ea.avg v0 n (2 ^ C.toNat)) now s1) _ hq7.range Tryd.underlying28 rfl (by kernel_rfl))) rfl ?_
    exact ⟨g1, some ⟨g', 0, none⟩, c', _, rfl, below_grown HB6.out hg7 (fun k hk => by injection hk with hk; omega), (HL6.out.kept hg7 (by simp; omega)).cell 0 rfl, (HO6.out.kept' hg7 (j := 5) (by omega) (HR6.out.cell 5 rfl)).rdT, rfl⟩
end Go.Proofs.YtfeemiamjmmolaaDoor
