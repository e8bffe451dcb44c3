/- The head of the laws of package dual. -/
import Derived.Test.YtdecclklenaoaaaDoorDuHead
namespace Go.Proofs.YtdecclklenaoaaaDoor
open Go.RowKit

set_option maxRecDepth 100000 in
set_option maxHeartbeats 4000000 in
theorem head_ok (w : World) (ht : Table w) : Calls Tryd.prog 10 #[] w fun e V => e = .returned (.bool true) ∧ Below w.heap.size w V := by
  have HT := Lib.hid ht
  clear ht
  obtain ⟨m1, s1, hT1⟩ := ht1
  obtain ⟨s2, hT2⟩ := ht2 s1
  obtain ⟨s5, hT5⟩ := ht5
  have HT1 := Lib.hid hT1
  have HT2 := Lib.hid hT2
  have HT5 := Lib.hid hT5
  clear hT1 hT2 hT5
  go_enter Tryd.func10, Tryd.ntmps10
  go_wp2_with fail
  refine (both_any _).mono ?_
  rintro e V0 ⟨g0, a0, b0, c0, d0, rfl, hb0, hq0⟩
  have HB0 := Lib.hid hb0
  have HQ0 := Lib.hid hq0
  clear hb0 hq0
  have HK0 := Lib.hid HQ0.out
  have HNQ0 := Lib.hid ((Blk.new V0 (dqList 1000 100 5 (some ⟨g0, 15, none⟩) 2 0 0 1).toArray 28))
  go_wp2_with fail
  refine (take_r (HK0.out.below (by exact (by repeat (first | exact Below.refl _ _ | refine below_new ?_ _)))) 2 1 (table_below HT.out (below_on HB0.out (by exact (by repeat (first | exact Below.refl _ _ | refine below_new ?_ _))))) 9 (by omega) (by omega) HT1.out ⟨0, 0, 1, 0, 1, 0, true, m1⟩ true rfl rfl).mono ?_
  rintro e V1 ⟨g1, a1, b1, c1, d1, da1, dc1, rfl, hb1, hq1, -, -, -⟩
  have HB1 := Lib.hid (below_on (below_on HB0.out (by exact (by repeat (first | exact Below.refl _ _ | refine below_new ?_ _)))) hb1)
  have HK0 := Lib.hid ((HK0.out.below (by exact (by repeat (first | exact Below.refl _ _ | refine below_new ?_ _)))).below hb1)
  have HQ0_1 := Lib.hid (HNQ0.out.below hb1)
  have HK1 := Lib.hid hq1
  clear hb1 hq1 HNQ0
  have HNQ1 := Lib.hid ((Blk.new V1 (dqList 1000 100 5 (some ⟨g1, 15, none⟩) 2 1 9 s1).toArray 28).below (below_new (Below.refl _ _) (.cells (pktList ⟨0, 0, 1, 0, 1, 0, true, m1⟩).toArray 30)))
  have HNP1 := Lib.hid (blk_new_at (V1.alloc (.cells (dqList 1000 100 5 (some ⟨g1, 15, none⟩) 2 1 9 s1).toArray 28)) (pktList ⟨0, 0, 1, 0, 1, 0, true, m1⟩).toArray 30 (g := V1.heap.size + 1) (by simp only [World.size_alloc]))
  go_wp2_with fail
  refine (take_r (HK1.out.below (by exact (by repeat (first | exact Below.refl _ _ | refine below_new ?_ _)))) 2 s1 (table_below HT.out (below_on HB1.out (by exact (by repeat (first | exact Below.refl _ _ | refine below_new ?_ _))))) 9 (by omega) (by omega) HT2.out hy.p true rfl rfl).mono ?_
  rintro e V2 ⟨g2, a2, b2, c2, d2, da2, dc2, rfl, hb2, hq2, -, -, -⟩
  have HB2 := Lib.hid (below_on (below_on HB1.out (by exact (by repeat (first | exact Below.refl _ _ | refine below_new ?_ _)))) hb2)
  have HK0 := Lib.hid ((HK0.out.below (by exact (by repeat (first | exact Below.refl _ _ | refine below_new ?_ _)))).below hb2)
  have HQ0_2 := Lib.hid ((HQ0_1.out.below (by exact (by repeat (first | exact Below.refl _ _ | refine below_new ?_ _)))).below hb2)
  have HQ1_2 := Lib.hid (HNQ1.out.below hb2)
  have HP1_2 := Lib.hid (HNP1.out.below hb2)
  have HK2 := Lib.hid hq2
  clear hb2 hq2 HQ0_1 HNQ1 HNP1
  have HNQ2 := Lib.hid ((Blk.new V2 (dqList 1000 100 5 (some ⟨g2, 15, none⟩) 2 0 9 s2).toArray 28).below (below_new (Below.refl _ _) (.cells (pktList hy.p).toArray 30)))
  have HNP2 := Lib.hid (blk_new_at (V2.alloc (.cells (dqList 1000 100 5 (some ⟨g2, 15, none⟩) 2 0 9 s2).toArray 28)) (pktList hy.p).toArray 30 (g := V2.heap.size + 1) (by simp only [World.size_alloc]))
  go_wp2_with (first | (refine wpList_load_mid rfl 28 _ rfl V0.heap.size 0 rfl (dqList 1000 100 5 (some ⟨g0, 15, none⟩) 2 0 0 1) _ (HQ0_2.out.below (by exact (by repeat (first | exact Below.refl _ _ | refine below_new ?_ _)))).range Tryd.underlying28 rfl (by kernel_rfl) ?_))
  refine (take_r (HK0.out.below (by exact (by repeat (first | exact Below.refl _ _ | refine below_new ?_ _)))) 2 1 (table_below HT.out (below_on HB2.out (by exact (by repeat (first | exact Below.refl _ _ | refine below_new ?_ _))))) 1000 (by omega) (by omega) ht3 ⟨0, 0, 1, 0, 1, 0, true, true⟩ true rfl rfl).mono ?_
  rintro e V3 ⟨g3, a3, b3, c3, d3, da3, dc3, rfl, hb3, hq3, -, -, -⟩
  have HB3 := Lib.hid (below_on (below_on HB2.out (by exact (by repeat (first | exact Below.refl _ _ | refine below_new ?_ _)))) hb3)
  have HK0 := Lib.hid ((HK0.out.below (by exact (by repeat (first | exact Below.refl _ _ | refine below_new ?_ _)))).below hb3)
  have HQ0_3 := Lib.hid ((HQ0_2.out.below (by exact (by repeat (first | exact Below.refl _ _ | refine below_new ?_ _)))).below hb3)
  have HQ1_3 := Lib.hid ((HQ1_2.out.below (by exact (by repeat (first | exact Below.refl _ _ | refine below_new ?_ _)))).below hb3)
  have HP1_3 := Lib.hid ((HP1_2.out.below (by exact (by repeat (first | exact Below.refl _ _ | refine below_new ?_ _)))).below hb3)
  have HQ2_3 := Lib.hid (HNQ2.out.below hb3)
  have HP2_3 := Lib.hid (HNP2.out.below hb3)
  have HK3 := Lib.hid hq3
  clear hb3 hq3 HQ0_2 HQ1_2 HP1_2 HNQ2 HNP2
  have HNQ3 := Lib.hid ((Blk.new V3 (dqList 1000 100 5 (some ⟨g3, 15, none⟩) 2 1 1000 1).toArray 28).below (below_new (Below.refl _ _) (.cells (pktList ⟨0, 0, 1, 0, 1, 0, true, true⟩).toArray 30)))
  have HNP3 := Lib.hid (blk_new_at (V3.alloc (.cells (dqList 1000 100 5 (some ⟨g3, 15, none⟩) 2 1 1000 1).toArray 28)) (pktList ⟨0, 0, 1, 0, 1, 0, true, true⟩).toArray 30 (g := V3.heap.size + 1) (by simp only [World.size_alloc]))
  go_wp2_with (first | (refine wpList_load_mid rfl 28 _ rfl V0.heap.size 0 rfl (dqList 1000 100 5 (some ⟨g0, 15, none⟩) 2 0 0 1) _ (HQ0_3.out.below (by exact (by repeat (first | exact Below.refl _ _ | refine below_new ?_ _)))).range Tryd.underlying28 rfl (by kernel_rfl) ?_))
  refine (take_r (HK0.out.below (by exact (by repeat (first | exact Below.refl _ _ | refine below_new ?_ _)))) 2 1 (table_below HT.out (below_on HB3.out (by exact (by repeat (first | exact Below.refl _ _ | refine below_new ?_ _))))) 20000 (by omega) (by omega) ht4 ⟨0, 0, 1, 0, 1, 0, true, true⟩ true rfl rfl).mono ?_
  rintro e V4 ⟨g4, a4, b4, c4, d4, da4, dc4, rfl, hb4, hq4, -, -, -⟩
  have HB4 := Lib.hid (below_on (below_on HB3.out (by exact (by repeat (first | exact Below.refl _ _ | refine below_new ?_ _)))) hb4)
  have HK0 := Lib.hid ((HK0.out.below (by exact (by repeat (first | exact Below.refl _ _ | refine below_new ?_ _)))).below hb4)
  have HQ0_4 := Lib.hid ((HQ0_3.out.below (by exact (by repeat (first | exact Below.refl _ _ | refine below_new ?_ _)))).below hb4)
  have HQ1_4 := Lib.hid ((HQ1_3.out.below (by exact (by repeat (first | exact Below.refl _ _ | refine below_new ?_ _)))).below hb4)
  have HP1_4 := Lib.hid ((HP1_3.out.below (by exact (by repeat (first | exact Below.refl _ _ | refine below_new ?_ _)))).below hb4)
  have HQ2_4 := Lib.hid ((HQ2_3.out.below (by exact (by repeat (first | exact Below.refl _ _ | refine below_new ?_ _)))).below hb4)
  have HP2_4 := Lib.hid ((HP2_3.out.below (by exact (by repeat (first | exact Below.refl _ _ | refine below_new ?_ _)))).below hb4)
  have HQ3_4 := Lib.hid (HNQ3.out.below hb4)
  have HP3_4 := Lib.hid (HNP3.out.below hb4)
  have HK4 := Lib.hid hq4
  clear hb4 hq4 HQ0_3 HQ1_3 HP1_3 HQ2_3 HP2_3 HNQ3 HNP3
  have HNQ4 := Lib.hid ((Blk.new V4 (dqList 1000 100 5 (some ⟨g4, 15, none⟩) 2 1 20000 1).toArray 28).below (below_new (Below.refl _ _) (.cells (pktList ⟨0, 0, 1, 0, 1, 0, true, true⟩).toArray 30)))
  have HNP4 := Lib.hid (blk_new_at (V4.alloc (.cells (dqList 1000 100 5 (some ⟨g4, 15, none⟩) 2 1 20000 1).toArray 28)) (pktList ⟨0, 0, 1, 0, 1, 0, true, true⟩).toArray 30 (g := V4.heap.size + 1) (by simp only [World.size_alloc]))
  go_wp2_with fail
  refine (take_r (HK4.out.below (by exact (by repeat (first | exact Below.refl _ _ | refine below_new ?_ _)))) 2 1 (table_below HT.out (below_on HB4.out (by exact (by repeat (first | exact Below.refl _ _ | refine below_new ?_ _))))) 20000 (by omega) (by omega) HT5.out ⟨0, 0, 0, 0, 0, 0, false, false⟩ false rfl rfl).mono ?_
  rintro e V5 ⟨g5, a5, b5, c5, d5, da5, dc5, rfl, hb5, hq5, -, -, -⟩
  have HB5 := Lib.hid (below_on (below_on HB4.out (by exact (by repeat (first | exact Below.refl _ _ | refine below_new ?_ _)))) hb5)
  have HK0 := Lib.hid ((HK0.out.below (by exact (by repeat (first | exact Below.refl _ _ | refine below_new ?_ _)))).below hb5)
  have HQ0_5 := Lib.hid ((HQ0_4.out.below (by exact (by repeat (first | exact Below.refl _ _ | refine below_new ?_ _)))).below hb5)
  have HQ1_5 := Lib.hid ((HQ1_4.out.below (by exact (by repeat (first | exact Below.refl _ _ | refine below_new ?_ _)))).below hb5)
  have HP1_5 := Lib.hid ((HP1_4.out.below (by exact (by repeat (first | exact Below.refl _ _ | refine below_new ?_ _)))).below hb5)
  have HQ2_5 := Lib.hid ((HQ2_4.out.below (by exact (by repeat (first | exact Below.refl _ _ | refine below_new ?_ _)))).below hb5)
  have HP2_5 := Lib.hid ((HP2_4.out.below (by exact (by repeat (first | exact Below.refl _ _ | refine below_new ?_ _)))).below hb5)
  have HQ3_5 := Lib.hid ((HQ3_4.out.below (by exact (by repeat (first | exact Below.refl _ _ | refine below_new ?_ _)))).below hb5)
  have HP3_5 := Lib.hid ((HP3_4.out.below (by exact (by repeat (first | exact Below.refl _ _ | refine below_new ?_ _)))).below hb5)
  have HQ4_5 := Lib.hid (HNQ4.out.below hb5)
  have HP4_5 := Lib.hid (HNP4.out.below hb5)
  have HK5 := Lib.hid hq5
  clear hb5 hq5 HQ0_4 HQ1_4 HP1_4 HQ2_4 HP2_4 HQ3_4 HP3_4 HNQ4 HNP4
  have kQ0_0 := fun o1 o2 => below_cell_of (below_new (below_new (Below.refl V5.heap.size V5) o1) o2) (HQ0_5.out.cell 0 rfl)
  have kQ0_1 := fun o1 o2 => below_cell_of (below_new (below_new (Below.refl V5.heap.size V5) o1) o2) (HQ0_5.out.cell 1 rfl)
  have kQ0_2 := fun o1 o2 => below_cell_of (below_new (below_new (Below.refl V5.heap.size V5) o1) o2) (HQ0_5.out.cell 2 rfl)
  have kQ0_3 := fun o1 o2 => below_cell_of (below_new (below_new (Below.refl V5.heap.size V5) o1) o2) (HQ0_5.out.cell 3 rfl)
  have kQ0_4 := fun o1 o2 => below_cell_of (below_new (below_new (Below.refl V5.heap.size V5) o1) o2) (HQ0_5.out.cell 4 rfl)
  have kQ0_5 := fun o1 o2 => below_cell_of (below_new (below_new (Below.refl V5.heap.size V5) o1) o2) (HQ0_5.out.cell 5 rfl)
  have kQ0_6 := fun o1 o2 => below_cell_of (below_new (below_new (Below.refl V5.heap.size V5) o1) o2) (HQ0_5.out.cell 6 rfl)
  have kQ0_7 := fun o1 o2 => below_cell_of (below_new (below_new (Below.refl V5.heap.size V5) o1) o2) (HQ0_5.out.cell 7 rfl)
  have kQ0_8 := fun o1 o2 => below_cell_of (below_new (below_new (Below.refl V5.heap.size V5) o1) o2) (HQ0_5.out.cell 8 rfl)
  have kQ0_9 := fun o1 o2 => below_cell_of (below_new (below_new (Below.refl V5.heap.size V5) o1) o2) (HQ0_5.out.cell 9 rfl)
  have kQ0_10 := fun o1 o2 => below_cell_of (below_new (below_new (Below.refl V5.heap.size V5) o1) o2) (HQ0_5.out.cell 10 rfl)
  have kQ0_11 := fun o1 o2 => below_cell_of (below_new (below_new (Below.refl V5.heap.size V5) o1) o2) (HQ0_5.out.cell 11 rfl)
  have kQ0_12 := fun o1 o2 => below_cell_of (below_new (below_new (Below.refl V5.heap.size V5) o1) o2) (HQ0_5.out.cell 12 rfl)
  have kQ0_13 := fun o1 o2 => below_cell_of (below_new (below_new (Below.refl V5.heap.size V5) o1) o2) (HQ0_5.out.cell 13 rfl)
  have kQ0_14 := fun o1 o2 => below_cell_of (below_new (below_new (Below.refl V5.heap.size V5) o1) o2) (HQ0_5.out.cell 14 rfl)
  have kP1_2 := fun o1 o2 => below_cell_of (below_new (below_new (Below.refl V5.heap.size V5) o1) o2) (HP1_5.out.cell 2 rfl)
  have kP2_2 := fun o1 o2 => below_cell_of (below_new (below_new (Below.refl V5.heap.size V5) o1) o2) (HP2_5.out.cell 2 rfl)
  have kP3_2 := fun o1 o2 => below_cell_of (below_new (below_new (Below.refl V5.heap.size V5) o1) o2) (HP3_5.out.cell 2 rfl)
  have kP3_7 := fun o1 o2 => below_cell_of (below_new (below_new (Below.refl V5.heap.size V5) o1) o2) (HP3_5.out.cell 7 rfl)
  have kP4_7 := fun o1 o2 => below_cell_of (below_new (below_new (Below.refl V5.heap.size V5) o1) o2) (HP4_5.out.cell 7 rfl)
  have kQ0_14 : ∀ o1 o2, ((V5.alloc o1).alloc o2).cell? ⟨V0.heap.size, 14, none⟩ = some (.int .u64 1) := kQ0_14
  go_wp2_with fail
  have HK5' := Lib.hid (HK0.out.below (by exact (below_new (below_new (Below.refl V5.heap.size V5) (.cells (dqList 1000 100 5 (some ⟨g5, 15, none⟩) 2 0 20000 s5).toArray 28)) (.cells (pktList ⟨0, 0, 0, 0, 0, 0, false, false⟩).toArray 30))))
  refine (dvalid_yes 1000 100 5 g0 15 2 0 0 1 _ _ _ _ _ _ _ _ _ HK5'.out.h1 HK5'.out.h2 HK5'.out.r1 HK5'.out.r2 HK5'.out.ok).mono ?_
  rintro e V6 ⟨rfl, hb6⟩
  have HB6 := Lib.hid (below_on (below_on HB5.out (by exact (below_new (below_new (Below.refl V5.heap.size V5) (.cells (dqList 1000 100 5 (some ⟨g5, 15, none⟩) 2 0 20000 s5).toArray 28)) (.cells (pktList ⟨0, 0, 0, 0, 0, 0, false, false⟩).toArray 30)))) hb6)
  clear hb6
  go_wp2_with fail
  refine (dvalid_no 0 0 0 0 0 none 0 0 0 0 0 0 0 0 0 0 0 _ (by omega)).mono ?_
  rintro e V7 ⟨rfl, hb7⟩
  have HB7 := Lib.hid (below_on HB6.out hb7)
  clear hb7
  go_wp2
  go_ret
  exact ⟨rfl, HB7.out⟩
end Go.Proofs.YtdecclklenaoaaaDoor
