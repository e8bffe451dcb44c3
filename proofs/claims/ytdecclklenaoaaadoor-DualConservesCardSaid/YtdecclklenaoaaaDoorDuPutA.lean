/- Put of package dual, at a valid queue and packet: the packet waits. -/
import Derived.Test.YtdecclklenaoaaaDoorDuPut
namespace Go.Proofs.YtdecclklenaoaaaDoor
open Go.RowKit

set_option maxRecDepth 100000 in
set_option maxHeartbeats 4000000 in
theorem put_able (A B room : Int) (ab ao : Nat) (lc : Nat) (v0 v7 : Int) (s : Nat) (w : World) (a1 : Option Addr) (n1 c1 : Nat) (xs : List Ea.Item) (a2 : Option Addr) (n2 c2 : Nat) (ys : List Ea.Item) (hc1 : w.cell? ⟨ab, ao, none⟩ = some (.slice a1 n1 c1)) (hc2 : w.cell? ⟨ab, ao + 1, none⟩ = some (.slice a2 n2 c2)) (hr1 : RdQ w a1 n1 xs) (hr2 : RdQ w a2 n2 ys) (hq : Du.Ok A B room v0 v7 xs ys) (p : Ea.Pkt) (hpk : p.ok) (now : Int) (h0 : v7 ≤ now) (h1 : now ≤ 10000000) (hf : (n1 : Int) + n2 < room) (hab : p.able = true) :
    Calls Tryd.prog 12 #[.agg #[.int .i64 6, .int .i64 A, .int .i64 B, .int .i64 0, .int .i64 room, .slice (some ⟨ab, ao, none⟩) 2 lc, .int .i64 v0, .int .i64 0, .int .i64 0, .int .i64 0, .int .i64 0, .int .i64 0, .int .i64 0, .int .i64 v7, .int .u64 (s : Int)], pktVal p, .int .i64 now] w (DPutSays w A B room v0 now s (xs ++ [⟨p, now⟩]) ys []) := by
  have HAB := Lib.hid hab
  clear hab
  have hlt := World.block_lt_of_cell? _ _ hc1
  have HC1 := Lib.hid hc1
  have HC2 := Lib.hid hc2
  have HR1 := Lib.hid hr1
  have HR2 := Lib.hid hr2
  have HQ := Lib.hid hq
  have HPK := Lib.hid hpk
  have hl1 := hr1.1
  have hl2 := hr2.1
  have hsh := hq.short
  clear hc1 hc2 hr1 hr2 hq hpk
  go_enter Tryd.func12, Tryd.ntmps12
  go_wp2_with fail
  refine (disPacket_yes p _ HPK.out).mono ?_
  rintro e w1 ⟨rfl, hb1⟩
  have hB1 : Below w.heap.size w w1 := below_on (below_new (below_new (below_new (Below.refl _ _) _) _) _) hb1
  have hq1 : Blk w1 w.heap.size [.int .i64 6, .int .i64 A, .int .i64 B, .int .i64 0, .int .i64 room, .slice (some ⟨ab, ao, none⟩) 2 lc, .int .i64 v0, .int .i64 0, .int .i64 0, .int .i64 0, .int .i64 0, .int .i64 0, .int .i64 0, .int .i64 v7, .int .u64 (s : Int)] := ((Blk.new w #[.int .i64 6, .int .i64 A, .int .i64 B, .int .i64 0, .int .i64 room, .slice (some ⟨ab, ao, none⟩) 2 lc, .int .i64 v0, .int .i64 0, .int .i64 0, .int .i64 0, .int .i64 0, .int .i64 0, .int .i64 0, .int .i64 v7, .int .u64 (s : Int)] 28).below (below_new (below_new (Below.refl _ _) _) _)).below hb1
  have hp1 : Blk w1 (w.heap.size + 1) (pktList p) := ((blk_new_at (w.alloc (.cells #[.int .i64 6, .int .i64 A, .int .i64 B, .int .i64 0, .int .i64 room, .slice (some ⟨ab, ao, none⟩) 2 lc, .int .i64 v0, .int .i64 0, .int .i64 0, .int .i64 0, .int .i64 0, .int .i64 0, .int .i64 0, .int .i64 v7, .int .u64 (s : Int)] 28)) (pktList p).toArray 30 (by simp)).below (below_new (Below.refl _ _) _)).below hb1
  have hr1 : Blk w1 (w.heap.size + 1 + 1) zeroDQ := (blk_new_at ((w.alloc (.cells #[.int .i64 6, .int .i64 A, .int .i64 B, .int .i64 0, .int .i64 room, .slice (some ⟨ab, ao, none⟩) 2 lc, .int .i64 v0, .int .i64 0, .int .i64 0, .int .i64 0, .int .i64 0, .int .i64 0, .int .i64 0, .int .i64 v7, .int .u64 (s : Int)] 28)).alloc (.cells (pktList p).toArray 30)) zeroDQ.toArray 28 (by simp)).below hb1
  have hz1 := hr1.lt
  have HB1 := Lib.hid hB1
  have HQ1 := Lib.hid hq1
  have HP1 := Lib.hid hp1
  have HR1' := Lib.hid hr1
  clear hB1 hq1 hp1 hr1 hb1
  go_wp2_with (refine wpList_load_mid rfl 28 _ rfl w.heap.size 0 rfl [.int .i64 6, .int .i64 A, .int .i64 B, .int .i64 0, .int .i64 room, .slice (some ⟨ab, ao, none⟩) 2 lc, .int .i64 v0, .int .i64 0, .int .i64 0, .int .i64 0, .int .i64 0, .int .i64 0, .int .i64 0, .int .i64 v7, .int .u64 (s : Int)] _ HQ1.out.range Tryd.underlying28 rfl (by kernel_rfl) ?_)
  refine (dopen_yes A B room ab ao lc v0 v7 s _ a1 n1 c1 xs a2 n2 c2 ys (below_cell_of HB1.out HC1.out) (below_cell_of HB1.out HC2.out) (HR1.out.below HB1.out) (HR2.out.below HB1.out) HQ.out now h0 h1).mono ?_
  rintro e w2 ⟨g, g1, g2, rfl, hb2, hp2, ho1, ho2, hg, hg1, hg2, hg12⟩
  have hls : Lists w2 (w.heap.size + 3) g g1 g2 n1 n2 xs ys := ⟨ownL_of ho1 (by omega) hl1, ownL_of ho2 (by omega) hl2, hg1, hg2, hg12, by have := (ho1.lt g1 rfl).1; omega, by have := (ho2.lt g2 rfl).1; omega, (ho1.lt g1 rfl).2, (ho2.lt g2 rfl).2⟩
  have hgw : w.heap.size + 3 ≤ g := by omega
  have hw2 : w.heap.size + 3 ≤ w2.heap.size := by have := hb2.size; omega
  have HLS := Lib.hid hls
  have HP2 := Lib.hid hp2
  have HB2 := Lib.hid (below_on HB1.out hb2)
  have HQ2 := Lib.hid (HQ1.out.below hb2)
  have HK2 := Lib.hid (HP1.out.below hb2)
  have HZ2 := Lib.hid (HR1'.out.below hb2)
  have k15 := hp2.cell 15 rfl
  have k16 := hp2.cell 16 rfl
  have q4 := HQ2.out.cell 4 rfl
  have hltg := hp2.lt
  have hW : IntKind.i64.wrap ((n1 : Int) + (n2 : Int)) = (n1 : Int) + (n2 : Int) := by rw [IntKind.wrap_i64]; omega
  clear hb2 hp2 ho1 ho2 hg hg1 hg2 hg12 hls HB1 HQ1 HP1 HR1' hz1
  have dl : decide (room ≤ (n1 : Int) + (n2 : Int)) = false := decide_eq_false (by omega)
  clear hf
  go_wp2
  go_quiet (fail)
  obtain ⟨V, hV⟩ : ∃ V, w2.drewN nq = V := ⟨_, rfl⟩
  rw [hV]
  have hnv : w2.grownBy V none := hV ▸ grown_drewN w2 nq none
  have hsV : w2.heap.size ≤ V.heap.size := hV ▸ Nat.le_refl _
  have HPV := Lib.hid (HP2.out.kept hnv (by simp))
  have HKV := Lib.hid (HK2.out.kept hnv (by simp))
  have HZV := Lib.hid (HZ2.out.kept hnv (by simp))
  have HBV := Lib.hid (below_grown HB2.out hnv (fun k e => by cases e))
  have HLV := Lib.hid (HLS.out.grown hnv)
  clear hV hnv k15 k16 q4 HP2 HK2 HZ2 HB2 HLS HQ2
  have c6 := HKV.out.cell 6 rfl
  rw [HAB.out] at c6
  have ltK := HKV.out.lt
  have c15 := HPV.out.cell 15 rfl
  have ltG := HPV.out.lt
  go_wp2
  refine wp_region_held_drew (S := (fun V => V.rangeAt (w.heap.size + 1) 0 (pktList p))) (by kernel_rfl) ?_ (fun hHeld => ?_)
  · exact HKV.out.range
  refine wpAnyH_take (i := 8) (v := (.agg (pktList p).toArray)) rfl (by kernel_rfl) (by kernel_rfl) (by kernel_rfl) (fun _ _ _ h => h) (yieldsIf_load_mid (by rfl) 30 _ rfl (w.heap.size + 1) 0 rfl (pktList p) _ (fun _ h => h) Tryd.underlying30 rfl (by kernel_rfl)) hHeld ?_
  try go_simp
  refine wpAnyH_take (i := 0) (v := ?_) rfl (by kernel_rfl) (by kernel_rfl) (by kernel_rfl) (fun _ _ _ h => h) (Or.inl ⟨by rfl, ?_⟩) hHeld ?_
  rotate_left
  · intro wS hSw; obtain hS0 := hSw; go_simp; try with_reducible rfl
  try go_simp
  refine wpAnyH_take (i := 1) (v := ?_) rfl (by kernel_rfl) (by kernel_rfl) (by kernel_rfl) (fun _ _ _ h => h) (Or.inl ⟨by rfl, ?_⟩) hHeld ?_
  rotate_left
  · intro wS hSw; obtain hS0 := hSw; go_simp; try with_reducible rfl
  try go_simp
  refine wpAnyH_take (i := 2) (v := ?_) rfl (by kernel_rfl) (by kernel_rfl) (by kernel_rfl) (fun _ _ _ h => h) (Or.inl ⟨by rfl, ?_⟩) hHeld ?_
  rotate_left
  · intro wS hSw; obtain hS0 := hSw; go_simp; try with_reducible rfl
  try go_simp
  refine wpAnyH_take (i := 3) (v := ?_) rfl (by kernel_rfl) (by kernel_rfl) (by kernel_rfl) (fun _ _ _ h => h) (Or.inl ⟨by rfl, ?_⟩) hHeld ?_
  rotate_left
  · intro wS hSw; obtain hS0 := hSw; go_simp; try with_reducible rfl
  try go_simp
  refine wpAnyH_take (i := 4) (v := ?_) rfl (by kernel_rfl) (by kernel_rfl) (by kernel_rfl) (fun _ _ _ h => h) (Or.inl ⟨by rfl, ?_⟩) hHeld ?_
  rotate_left
  · intro wS hSw; obtain hS0 := hSw; go_simp; try with_reducible rfl
  try go_simp
  refine wpAnyH_take (i := 5) (v := ?_) rfl (by kernel_rfl) (by kernel_rfl) (by kernel_rfl) (fun _ _ _ h => h) (Or.inl ⟨by rfl, ?_⟩) hHeld ?_
  rotate_left
  · intro wS hSw; obtain hS0 := hSw; go_simp; try with_reducible rfl
  try go_simp
  refine wpAnyH_take (i := 6) (v := ?_) rfl (by kernel_rfl) (by kernel_rfl) (by kernel_rfl) (fun _ _ _ h => h) (Or.inl ⟨by rfl, ?_⟩) hHeld ?_
  rotate_left
  · intro wS hSw; obtain hS0 := hSw; go_simp; try with_reducible rfl
  try go_simp
  refine wpAnyH_take (i := 9) (v := ?_) rfl (by kernel_rfl) (by kernel_rfl) (by kernel_rfl) (fun _ _ _ h => h) (Or.inl ⟨by rfl, ?_⟩) hHeld ?_
  rotate_left
  · intro wS hSw; obtain hS0 := hSw; go_simp; try with_reducible rfl
  try go_simp
  refine wpAnyH_take (i := 10) (v := ?_) rfl (by kernel_rfl) (by kernel_rfl) (by kernel_rfl) (fun _ _ _ h => h) (Or.inl ⟨by rfl, ?_⟩) hHeld ?_
  rotate_left
  · intro wS hSw; obtain hS0 := hSw; go_simp; try with_reducible rfl
  try go_simp
  refine wpAnyH_take (i := 13) (v := ?_) rfl (by kernel_rfl) (by kernel_rfl) (by kernel_rfl) (fun _ _ _ h => h) (Or.inl ⟨by rfl, ?_⟩) hHeld ?_
  rotate_left
  · intro wS hSw; obtain hS0 := hSw; go_simp; try with_reducible rfl
  try go_simp
  refine wpAnyH_take (i := 14) (v := ?_) rfl (by kernel_rfl) (by kernel_rfl) (by kernel_rfl) (fun _ _ _ h => h) (Or.inl ⟨by rfl, ?_⟩) hHeld ?_
  rotate_left
  · intro wS hSw; obtain hS0 := hSw; go_simp; try with_reducible rfl
  try go_simp
  refine wpAnyH_ready (rs := [7, 11]) (by kernel_rfl) (by simp) ?_
  refine AllReadyH.cons rfl (fun K hK => ?_) (AllReadyH.cons rfl (fun K hK => ?_) AllReadyH.nil)
  · go_simp
    refine hK.out _ _ ?_ (fun hHeld => ?_)
    · exact hHeld
    clear hK K
    try go_simp
    refine wpAnyH_ready (rs := [11]) (by kernel_rfl) (by simp) ?_
    refine AllReadyH.cons rfl (fun K hK => ?_) AllReadyH.nil
    go_simp
    refine hK.out _ _ ?_ (fun hHeld => ?_)
    · exact rangeAt_below hHeld (below_new (Below.refl _ _) _)
    clear hK K
    try go_simp
    refine wpAnyH_ready (rs := [12]) (by kernel_rfl) (by simp) ?_
    refine AllReadyH.cons rfl (fun K hK => ?_) AllReadyH.nil
    refine ready_add_item (base := w.heap.size + 3) (by rfl) _ _ _ rfl rfl (HLV.out.o1.below (by exact below_new (below_drawn (Below.refl _ _)) _)) (by simp; omega) V.heap.size 0 ⟨p, now⟩ rfl (by exact (Blk.new V (itemList ⟨p, now⟩).toArray 51).range) (by omega) ?_
    intro g' c' row V5 hown5 hgr5 hrow5
    have hrl : ∀ k, row = some k → k = g1 := fun k hk => by
      obtain ⟨_, h⟩ := hrow5 k hk
      injection h with h
      injection h with h
      exact h.symm
    have hrl : ∀ k, row = some k → k = g1 ∧ w.heap.size + 3 ≤ k := fun k hk => ⟨hrl k hk, by rw [hrl k hk]; exact HLV.out.lo1⟩
    have hp5 := blk_thru HPV.out hgr5 (fun e => HLV.out.e1 ((hrl _ e.symm).1.symm)) (by exact below_new (below_drawn (Below.refl _ _)) _)
    have c5 := hp5.cell 15 rfl
    have f5 := hp5.frozen ⟨g, 15, none⟩ rfl
    refine hK.out _ _ ?_ (fun hHeld => ?_)
    · exact rangeAt_kept hHeld hgr5 (fun e => by have := hrl _ e.symm; omega)
    clear hK K
    try go_simp
    refine wpAnyH_take (i := 15) (v := ?_) rfl (by kernel_rfl) (by kernel_rfl) (by kernel_rfl) (fun _ _ _ h => h) (Or.inl ⟨by rfl, ?_⟩) hHeld ?_
    rotate_left
    · intro wS hSw; obtain hS0 := hSw; go_simp; try with_reducible rfl
    try go_simp
    refine wpAnyH_ready (rs := [16]) (by kernel_rfl) (by simp) ?_
    refine AllReadyH.cons rfl (fun K hK => ?_) AllReadyH.nil
    go_simp
    refine hK.out _ _ ?_ (fun hHeld => ?_)
    · exact rangeAt_kept hHeld (grown_set _ ⟨g, 15, none⟩ _) (by simp; omega)
    clear hK K
    try go_simp
    refine wpAnyH_done (by kernel_rfl) ?_ _
    have hx5 : RdT V5 (some ⟨g', 0, none⟩) (n1 + 1) (xs ++ [⟨p, now⟩]) := OwnL.rdT (base := w.heap.size + 3) (c := c') (Or.inr ⟨by omega, hown5⟩)
    have hg' := hown5.lt g' rfl
    have hgg : g' ≠ g := own_apart hown5 (by omega) (j := 5) (by omega) (hp5.cell 5 rfl)
    have hy5 : RdT V5 (some ⟨g2, 0, none⟩) n2 ys := ((HLV.out.o2.below (by exact below_new (below_drawn (Below.refl _ _)) _)).kept hgr5 (fun ad e _ e2 => by injection e with e; subst e; have := (hrl _ e2.symm).1; have := HLV.out.e12; simp only at *; omega)).rdT
    have HX5 := Lib.hid hx5
    have HY5 := Lib.hid hy5
    have HB5 := Lib.hid (below_grown (below_on HBV.out (by exact below_new (below_drawn (Below.refl _ _)) _)) hgr5 (fun k hk => by have := (hrl k hk).2; omega))
    have HZ5 := Lib.hid (blk_thru HZV.out hgr5 (fun e => by have := (hrl _ e.symm).2; omega) (by exact below_new (below_drawn (Below.refl _ _)) _))
    have hs5 : V.heap.size ≤ V5.heap.size := Nat.le_trans (by simp) hgr5.size
    have HP6 := Lib.hid (hp5.set 15 (.slice (some ⟨g', 0, none⟩) (n1 + 1) c'))
    clear hx5 hy5 hown5 hgr5 hrow5 hrl hp5 c5 f5 hHeld
    go_wp2_with fail
    refine (close_any _ g A B room _ _ v0 now s _ _ now (.slice none 0 0) HP6.out).mono ?_
    rintro e W3 ⟨rfl, hp3, hg3⟩
    have hG3 : V5.grownBy W3 (some g) := grown_trans (grown_set V5 ⟨g, 15, none⟩ _) hg3
    have HZ3 := Lib.hid (HZ5.out.kept hG3 (by simp; omega))
    have HP3 := Lib.hid hp3
    have HG3 := Lib.hid hG3
    clear hp3 hg3 hG3 HP6 HZ5
    go_wp2_with (first | (refine wpList_store_blk rfl 28 _ _ rfl (w.heap.size + 1 + 1) zeroDQ (dqList A B room (some ⟨g, 15, none⟩) 2 v0 now s) rfl rfl HZ3.out (by kernel_rfl) rfl (dqList_one _ _ _ _ _ _ _ _) ?_; intro V4 hq4 hg4))
    refine bodyPost_ret (results_c11 Tryd.results12 rfl (run_loadVar_mid _ (w.heap.size + 1 + 1) 0 28 (dqList A B room (some ⟨g, 15, none⟩) 2 v0 now s) _ hq4.range Tryd.underlying28 rfl (by kernel_rfl))) rfl ?_
    obtain ⟨hB, hpZ, hx, hy⟩ := put_end HB5.out HG3.out (Below.refl _ _) hg4 (Below.refl _ _) (by omega) (by omega) (by omega) HP3.out HX5.out (fun ad e hn => by injection e with e; subst e; exact ⟨hgg, by simp; omega, hg'.2⟩) HY5.out (fun ad e hn => by injection e with e; subst e; exact ⟨HLV.out.e2, by have := HLV.out.lo2; simp; omega, by have := HLV.out.hi2; simp; omega⟩)
    rw [← hl2] at hy
    exact ⟨g, _, _, _, _, _, rfl, hB, hpZ.cell 15 (by rw [List.length_append, hl1]; rfl), hpZ.cell 16 (by rw [hl2]; rfl), (by rw [List.length_append, hl1]; exact hx), hy, ⟨none, 0, rfl, fun i hi => absurd hi (by simp)⟩, by omega, fun ad n c e => by injection e with e; cases e⟩
  · go_simp
    refine hK.out _ _ ?_ (fun hHeld => ?_)
    · exact rangeAt_below hHeld (below_new (Below.refl _ _) _)
    clear hK K
    try go_simp
    refine wpAnyH_ready (rs := [7]) (by kernel_rfl) (by simp) ?_
    refine AllReadyH.cons rfl (fun K hK => ?_) AllReadyH.nil
    go_simp
    refine hK.out _ _ ?_ (fun hHeld => ?_)
    · exact hHeld
    clear hK K
    try go_simp
    refine wpAnyH_ready (rs := [12]) (by kernel_rfl) (by simp) ?_
    refine AllReadyH.cons rfl (fun K hK => ?_) AllReadyH.nil
    refine ready_add_item (base := w.heap.size + 3) (by rfl) _ _ _ rfl rfl (HLV.out.o1.below (by exact below_new (below_drawn (Below.refl _ _)) _)) (by simp; omega) V.heap.size 0 ⟨p, now⟩ rfl (by exact (Blk.new V (itemList ⟨p, now⟩).toArray 51).range) (by omega) ?_
    intro g' c' row V5 hown5 hgr5 hrow5
    have hrl : ∀ k, row = some k → k = g1 := fun k hk => by
      obtain ⟨_, h⟩ := hrow5 k hk
      injection h with h
      injection h with h
      exact h.symm
    have hrl : ∀ k, row = some k → k = g1 ∧ w.heap.size + 3 ≤ k := fun k hk => ⟨hrl k hk, by rw [hrl k hk]; exact HLV.out.lo1⟩
    have hp5 := blk_thru HPV.out hgr5 (fun e => HLV.out.e1 ((hrl _ e.symm).1.symm)) (by exact below_new (below_drawn (Below.refl _ _)) _)
    have c5 := hp5.cell 15 rfl
    have f5 := hp5.frozen ⟨g, 15, none⟩ rfl
    refine hK.out _ _ ?_ (fun hHeld => ?_)
    · exact rangeAt_kept hHeld hgr5 (fun e => by have := hrl _ e.symm; omega)
    clear hK K
    try go_simp
    refine wpAnyH_take (i := 15) (v := ?_) rfl (by kernel_rfl) (by kernel_rfl) (by kernel_rfl) (fun _ _ _ h => h) (Or.inl ⟨by rfl, ?_⟩) hHeld ?_
    rotate_left
    · intro wS hSw; obtain hS0 := hSw; go_simp; try with_reducible rfl
    try go_simp
    refine wpAnyH_ready (rs := [16]) (by kernel_rfl) (by simp) ?_
    refine AllReadyH.cons rfl (fun K hK => ?_) AllReadyH.nil
    go_simp
    refine hK.out _ _ ?_ (fun hHeld => ?_)
    · exact rangeAt_kept hHeld (grown_set _ ⟨g, 15, none⟩ _) (by simp; omega)
    clear hK K
    try go_simp
    refine wpAnyH_done (by kernel_rfl) ?_ _
    have hx5 : RdT V5 (some ⟨g', 0, none⟩) (n1 + 1) (xs ++ [⟨p, now⟩]) := OwnL.rdT (base := w.heap.size + 3) (c := c') (Or.inr ⟨by omega, hown5⟩)
    have hg' := hown5.lt g' rfl
    have hgg : g' ≠ g := own_apart hown5 (by omega) (j := 5) (by omega) (hp5.cell 5 rfl)
    have hy5 : RdT V5 (some ⟨g2, 0, none⟩) n2 ys := ((HLV.out.o2.below (by exact below_new (below_drawn (Below.refl _ _)) _)).kept hgr5 (fun ad e _ e2 => by injection e with e; subst e; have := (hrl _ e2.symm).1; have := HLV.out.e12; simp only at *; omega)).rdT
    have HX5 := Lib.hid hx5
    have HY5 := Lib.hid hy5
    have HB5 := Lib.hid (below_grown (below_on HBV.out (by exact below_new (below_drawn (Below.refl _ _)) _)) hgr5 (fun k hk => by have := (hrl k hk).2; omega))
    have HZ5 := Lib.hid (blk_thru HZV.out hgr5 (fun e => by have := (hrl _ e.symm).2; omega) (by exact below_new (below_drawn (Below.refl _ _)) _))
    have hs5 : V.heap.size ≤ V5.heap.size := Nat.le_trans (by simp) hgr5.size
    have HP6 := Lib.hid (hp5.set 15 (.slice (some ⟨g', 0, none⟩) (n1 + 1) c'))
    clear hx5 hy5 hown5 hgr5 hrow5 hrl hp5 c5 f5 hHeld
    go_wp2_with fail
    refine (close_any _ g A B room _ _ v0 now s _ _ now (.slice none 0 0) HP6.out).mono ?_
    rintro e W3 ⟨rfl, hp3, hg3⟩
    have hG3 : V5.grownBy W3 (some g) := grown_trans (grown_set V5 ⟨g, 15, none⟩ _) hg3
    have HZ3 := Lib.hid (HZ5.out.kept hG3 (by simp; omega))
    have HP3 := Lib.hid hp3
    have HG3 := Lib.hid hG3
    clear hp3 hg3 hG3 HP6 HZ5
    go_wp2_with (first | (refine wpList_store_blk rfl 28 _ _ rfl (w.heap.size + 1 + 1) zeroDQ (dqList A B room (some ⟨g, 15, none⟩) 2 v0 now s) rfl rfl HZ3.out (by kernel_rfl) rfl (dqList_one _ _ _ _ _ _ _ _) ?_; intro V4 hq4 hg4))
    refine bodyPost_ret (results_c11 Tryd.results12 rfl (run_loadVar_mid _ (w.heap.size + 1 + 1) 0 28 (dqList A B room (some ⟨g, 15, none⟩) 2 v0 now s) _ hq4.range Tryd.underlying28 rfl (by kernel_rfl))) rfl ?_
    obtain ⟨hB, hpZ, hx, hy⟩ := put_end HB5.out HG3.out (Below.refl _ _) hg4 (Below.refl _ _) (by omega) (by omega) (by omega) HP3.out HX5.out (fun ad e hn => by injection e with e; subst e; exact ⟨hgg, by simp; omega, hg'.2⟩) HY5.out (fun ad e hn => by injection e with e; subst e; exact ⟨HLV.out.e2, by have := HLV.out.lo2; simp; omega, by have := HLV.out.hi2; simp; omega⟩)
    rw [← hl2] at hy
    exact ⟨g, _, _, _, _, _, rfl, hB, hpZ.cell 15 (by rw [List.length_append, hl1]; rfl), hpZ.cell 16 (by rw [hl2]; rfl), (by rw [List.length_append, hl1]; exact hx), hy, ⟨none, 0, rfl, fun i hi => absurd hi (by simp)⟩, by omega, fun ad n c e => by injection e with e; cases e⟩
end Go.Proofs.YtdecclklenaoaaaDoor
