/- The head of the laws of package dual: both. -/
import Derived.Test.YtdecclklenaoaaaDoorDuQ
namespace Go.Proofs.YtdecclklenaoaaaDoor
open Go.RowKit

abbrev hx : Ea.Item := ⟨⟨0, 0, 1, 0, 1, 0, true, false⟩, 0⟩
abbrev hy : Ea.Item := ⟨⟨0, 0, 2, 0, 1, 0, false, false⟩, 0⟩
theorem rnd_low (s : Nat) : 0 ≤ Du.rnd s := Int.emod_nonneg _ (by decide)
theorem rnd_high (s : Nat) : Du.rnd s < 1000000 := Int.emod_lt_of_pos _ (by decide)
theorem ht1 : ∃ m s', Du.take 1000 100 9 [hx] [hy] 0 1 [] = ⟨[], [hy], 1, s', some ⟨0, 0, 1, 0, 1, 0, true, m⟩, []⟩ := by
  rw [Du.take, if_neg (by decide), if_neg (by decide)]
  by_cases h : Du.rnd 1 < 2 * Du.press 100 9 [hy]
  · exact ⟨true, _, by rw [if_pos h]; rfl⟩
  · exact ⟨false, _, by rw [if_neg h]; rfl⟩
theorem ht2 (s : Nat) : ∃ s', Du.take 1000 100 9 [] [hy] 1 s [] = ⟨[], [], 0, s', some hy.p, []⟩ := by
  rw [Du.take, if_neg (by have := rnd_low s; rw [show Du.press 100 9 [hy] * Du.press 100 9 [hy] / 1000000 = 0 by decide]; omega)]
  exact ⟨_, rfl⟩
theorem ht3 : Du.take 1000 100 1000 [hx] [hy] 0 1 [] = ⟨[], [hy], 1, 1, some ⟨0, 0, 1, 0, 1, 0, true, true⟩, []⟩ := by
  rw [Du.take, if_neg (by decide), if_pos (by decide)]
  rfl
theorem ht4 : Du.take 1000 100 20000 [hx] [hy] 0 1 [] = ⟨[], [hy], 1, 1, some ⟨0, 0, 1, 0, 1, 0, true, true⟩, []⟩ := by
  rw [Du.take, if_neg (by decide), if_pos (by decide)]
  rfl
theorem ht5 : ∃ s', Du.take 1000 100 20000 [] [hy] 1 1 [] = ⟨[], [], 0, s', none, [hy.p]⟩ := by
  rw [Du.take, if_pos (by have := rnd_high 1; rw [show Du.press 100 20000 [hy] * Du.press 100 20000 [hy] / 1000000 = 1000000 by decide]; omega), Du.take]
  exact ⟨_, rfl⟩
/-- The queue of the examples. -/
def BothQ (w : World) (e : Ending) (V : World) : Prop :=
  ∃ g a1 c1 a2 c2, e = .returned (.tuple #[.agg (dqList 1000 100 5 (some ⟨g, 15, none⟩) 2 0 0 1).toArray, .bool true]) ∧ Below w.heap.size w V ∧ QIn V 1000 100 5 g 15 0 0 a1 1 c1 [hx] a2 1 c2 [hy]
theorem hx_ok : hx.p.ok := by decide
theorem hy_ok : hy.p.ok := by decide
set_option maxRecDepth 100000 in
set_option maxHeartbeats 4000000 in
theorem both_any (w : World) : Calls Tryd.prog 28 #[] w (BothQ w) := by
  go_enter Tryd.func28, Tryd.ntmps28
  go_wp2_with fail
  refine (empty_any 1000 100 5 1 _ (Du.ok_empty (by omega) (by omega) (by omega) (by omega) (by omega) (by omega))).mono ?_
  rintro e V1 ⟨g1, a1, a2, rfl, hb1, hq1⟩
  have HB1 := Lib.hid (below_on (below_new (Below.refl w.heap.size w) _) hb1)
  have HZ1 := Lib.hid ((Blk.new w zeroDQ.toArray 28).below hb1)
  have HQ1 := Lib.hid hq1
  clear hb1 hq1
  go_wp2_with fail
  refine (put_r HQ1.out 2 1 hx.p hx_ok 0 (by omega) (by omega) (xs' := [hx]) (ys' := []) (drops := []) rfl).mono ?_
  rintro e V2 ⟨g2, b1, c1, b2, c2, da, dc, rfl, hb2, hq2, -, -, -⟩
  have HB2 := Lib.hid (below_on HB1.out hb2)
  have HZ2 := Lib.hid (HZ1.out.below hb2)
  have HQ2 := Lib.hid hq2
  have hlt2 := HZ2.out.lt
  clear hb2 hq2 HB1 HZ1 HQ1
  go_wp2_with fail
  refine (put_r (HQ2.out.below (below_new (Below.refl _ _) _)) 2 1 hy.p hy_ok 0 (by omega) (by omega) (xs' := [hx]) (ys' := [hy]) (drops := []) rfl).mono ?_
  rintro e V3 ⟨g3, d1, e1, d2, e2, fa, fc, rfl, hb3, hq3, -, -, -⟩
  have HB3 := Lib.hid (below_on HB2.out (below_on (below_new (Below.refl _ _) _) hb3))
  have HZ3 := Lib.hid ((HZ2.out.below (below_new (Below.refl _ _) _)).below hb3)
  have HQ3 := Lib.hid hq3
  have hlt3 := HZ3.out.lt
  clear hb3 hq3 HB2 HZ2 HQ2
  go_wp2_with (first | (refine wpList_store_blk rfl 28 _ _ rfl w.heap.size zeroDQ (dqList 1000 100 5 (some ⟨g3, 15, none⟩) 2 0 0 1) rfl rfl (HZ3.out.below (below_new (Below.refl _ _) _)) (by kernel_rfl) rfl (dqList_one _ _ _ _ _ _ _ _) ?_; intro V4 hq4 hg4))
  refine bodyPost_ret (results_c1 Tryd.results28 rfl (run_loadVar_mid _ w.heap.size 0 28 (dqList 1000 100 5 (some ⟨g3, 15, none⟩) 2 0 0 1) _ hq4.range Tryd.underlying28 rfl (by kernel_rfl))) rfl ?_
  exact ⟨g3, d1, e1, d2, e2, rfl, below_grown (below_on HB3.out (below_new (Below.refl _ _) _)) hg4 (fun k hk => by injection hk with hk; omega), (HQ3.out.below (below_new (Below.refl _ _) _)).small (HZ3.out.below (below_new (Below.refl _ _) _)) (small_q rfl rfl rfl) hg4⟩
end Go.Proofs.YtdecclklenaoaaaDoor
