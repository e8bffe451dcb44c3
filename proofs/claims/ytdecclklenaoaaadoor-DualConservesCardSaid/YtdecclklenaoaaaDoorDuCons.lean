/- The statement DualConserves: it returns true, whatever the input, and leaves what was in memory alone. -/
import Derived.Test.YtdecclklenaoaaaDoorDuHeadB
import Derived.Test.YtdecclklenaoaaaDoorDuStay
import Derived.Test.YtdecclklenaoaaaDoorDuPar
import Derived.Deep.Cut
import Derived.Deep.CutRange
namespace Go.Proofs.YtdecclklenaoaaaDoor
open Go.RowKit

theorem only_none {drops : List Ea.Pkt} (h : ∀ d ∈ drops, d.able = false) : Du.only true drops = [] := by
  unfold Du.only
  rw [List.filter_eq_nil_iff]
  intro d hd
  rw [h d hd]
  simp
theorem pair_one {drops : List Ea.Pkt} (h : drops.length ≤ 1) : drops.Pairwise (fun p q => p.number ≠ q.number) := by
  match drops, h with
  | [], _ => exact List.Pairwise.nil
  | [d], _ => exact List.pairwise_singleton _ _
  | _ :: _ :: _, h => exact absurd h (by simp)
theorem take_drops0 {A B now row : Int} {s s' : Nat} {xs ys xs' ys' : List Ea.Item} {row' : Int} {got : Option Ea.Pkt} {drops : List Ea.Pkt} (ho : Du.take A B now xs ys row s [] = ⟨xs', ys', row', s', got, drops⟩) : drops.length ≤ ys.length := by
  obtain ⟨ds, mid, h1, h2, _⟩ := Du.take_gives A B now ys xs row s []
  rw [ho] at h2
  simp only [List.nil_append] at h2
  rw [h2, h1]
  simp [Du.ps]
theorem ps_snoc {l : List Ea.Item} {j : Nat} (hj : j < l.length) : Du.ps (l.take (j + 1)) = Du.ps (l.take j) ++ [(l.getD j default).p] := by
  have e : l.getD j default = l[j] := by rw [List.getD_eq_getElem?_getD, List.getElem?_eq_getElem hj]; rfl
  rw [e, List.take_add_one, List.getElem?_eq_getElem hj]
  unfold Du.ps
  rw [List.map_append]
  rfl
theorem ps_len0 (l : List Ea.Item) : (Du.ps l).length = l.length := by simp [Du.ps]
theorem ps_len (l : List Ea.Item) (j : Nat) : (Du.ps (l.take j)).length ≤ l.length := by rw [ps_len0]; exact take_len l j
theorem item_range {w : World} {b o : Nat} {y : Ea.Item} (h : w.rangeAt b o (itemList y)) : w.rangeAt b o (pktList y.p) := fun j v hv => h j v (pkt_of_item hv)
set_option maxRecDepth 100000 in
set_option maxHeartbeats 8000000 in
theorem cons_entry (th cp rm sd : Int) (la : Option Addr) (n lc : Nat) (ks : List StepV) (W : World) (hw0 : (Lit.int .u16 th).wf = true) (hw1 : (Lit.int .u8 cp).wf = true) (hw2 : (Lit.int .u8 rm).wf = true) (hw3 : (Lit.int .u64 sd).wf = true) (hS : RdS W la n ks) (_ : (n : Int) ≤ 9223372036854775807) (ht : Table W) :
    Calls Tryd.prog 4 #[.int .u16 th, .int .u8 cp, .int .u8 rm, .int .u64 sd, .slice la n lc] W fun e V => e = .returned (.bool true) ∧ Below W.heap.size W V := by
  have hth : 0 ≤ th ∧ th ≤ 65535 := by
    simp only [Lit.wf, Bool.and_eq_true, decide_eq_true_eq] at hw0
    exact hw0
  have hcp : 0 ≤ cp ∧ cp ≤ 255 := by
    simp only [Lit.wf, Bool.and_eq_true, decide_eq_true_eq] at hw1
    exact hw1
  have hrm : 0 ≤ rm ∧ rm ≤ 255 := by
    simp only [Lit.wf, Bool.and_eq_true, decide_eq_true_eq] at hw2
    exact hw2
  obtain ⟨sn, rfl⟩ : ∃ sn : Nat, sd = (sn : Int) := ⟨sd.toNat, by
    simp only [Lit.wf, Bool.and_eq_true, decide_eq_true_eq] at hw3
    have := hw3.1
    simp [IntKind.min, IntKind.signed] at this
    omega⟩
  clear hw0 hw1 hw2 hw3
  have HS := Lib.hid hS
  have HT := Lib.hid ht
  clear hS ht
  have hmm := @run_makeMap Tryd.prog
  go_enter Tryd.func4, Tryd.ntmps4
  go_wp2_with fail
  refine (head_ok W HT.out).mono ?_
  rintro e w1 ⟨rfl, hb1⟩
  have HB1 := Lib.hid hb1
  clear hb1
  by_cases hn : 150 < n
  · have dn : decide (150 < (n : Int)) = true := decide_eq_true (by omega)
    go_wp2
    go_ret
    exact ⟨rfl, HB1.out⟩
  · have dn : decide (150 < (n : Int)) = false := decide_eq_false (by omega)
    have wth : IntKind.i64.wrap th = th := by rw [IntKind.wrap_i64]; omega
    have wcp : IntKind.i64.wrap cp = cp := by rw [IntKind.wrap_i64]; omega
    have wrm : IntKind.i64.wrap rm = rm := by rw [IntKind.wrap_i64]; omega
    have wro : IntKind.i64.wrap (1 + rm % 20) = 1 + rm % 20 := by rw [IntKind.wrap_i64]; omega
    go_wp2_with fail
    refine (empty_any th cp (1 + rm % 20) sn w1 (Du.ok_empty (by omega) (by omega) (by omega) (by omega) (by omega) (by omega))).mono ?_
    obtain ⟨A, hA⟩ : ∃ A, th = A := ⟨_, rfl⟩
    obtain ⟨B, hB⟩ : ∃ B, cp = B := ⟨_, rfl⟩
    obtain ⟨room, hR⟩ : ∃ r, 1 + rm % 20 = r := ⟨_, rfl⟩
    simp only [hA, hB, hR]
    rintro e V0 ⟨g, a1, a2, rfl, hb0, hqi⟩
    have zg := World.block_lt_of_cell? _ _ hqi.h1
    simp only at zg
    have hst : CSt W ((V0.alloc (.cells (dqList A B room (some ⟨g, 0, none⟩) 2 0 0 sn).toArray 28)).alloc (.map #[] 0)) V0.heap.size (V0.heap.size + 1) A B room 0 0 (.slice none 0 0) (.slice none 0 0) [] [] [] [] [] := by
      have hz := HB1.out.size
      have hz0 := hb0.size
      refine ⟨below_new (below_new (below_on HB1.out hb0) _) _, ⟨g, 0, 2, 0, sn, a1, 0, a2, 0, (Blk.new V0 (dqList A B room (some ⟨g, 0, none⟩) 2 0 0 sn).toArray 28).below (below_new (Below.refl _ _) _), hqi.below (by exact (by repeat (first | exact Below.refl _ _ | refine below_drawnN ?_ _ | refine below_drawn ?_ | refine below_new ?_ _)))⟩, OwnP.nil _ _, OwnP.nil _ _, ?_, by omega, by omega, by simp [Value.ownBlock], by simp [Value.ownBlock], by simp [Value.ownBlock], Nat.le_refl _, Nat.le_refl _⟩
      have := Gone.made (V0.alloc (.cells (dqList A B room (some ⟨g, 0, none⟩) 2 0 0 sn).toArray 28))
      rw [World.size_alloc] at this
      exact this
    have HST := Lib.hid hst
    have HST0 := Lib.hid (below_on HB1.out hb0)
    clear hst hb0 hqi HB1
    go_wp2
    go_loopw [13, 14, 15, 55] (fun nw vc0 vt0 i wr => ∃ vc vt : Value, vc = vc0 ∧ vt = vt0 ∧ ∃ k : Nat, k ≤ n ∧ i = .int .i64 k ∧ ∃ now : Int, nw = .int .i64 now ∧ 0 ≤ now ∧ now ≤ k * 65535 ∧ ∃ xs ys came taken gone, CSt W wr V0.heap.size (V0.heap.size + 1) A B room now k vc vt xs ys came taken gone ∧ Du.Keep k xs ys came taken gone ∧ gone.length ≤ 500 * k) (fun _ _ _ i _ => n - (intOf i).toNat)
    case atStart => exact ⟨_, _, rfl, rfl, 0, Nat.zero_le _, rfl, 0, rfl, by omega, by omega, [], [], [], [], [], HST.out, Du.Keep.start, Nat.le_refl _⟩
    case round =>
      obtain ⟨vc, vt, rfl, rfl, k, hk, rfl, now, rfl, n0, n1, xs, ys, came, taken, gone, hst, hkeep, hgl0⟩ := hrel
      clear HST
      have HST := Lib.hid hst
      have HKEEP := Lib.hid hkeep
      clear hst hkeep
      by_cases hlt : k < n
      · obtain ⟨⟨sb, so, rfl, hy⟩, hso⟩ := HS.out.2 k hlt
        have hx := rangeAt_below hy (HST.out.below)
        obtain ⟨w0, w1', z0, z1⟩ := hso
        obtain ⟨⟨wt, tk, sz, ab⟩, hsv⟩ : ∃ p, ks.getD k default = p := ⟨_, rfl⟩
        rw [hsv] at hx w0 w1' z0 z1
        simp only at w0 w1' z0 z1
        have x0 : wr.cell? ⟨sb, so + k * 4, none⟩ = some (.int .u16 wt) := hx 0 _ rfl
        have x1 := hx 1 _ rfl
        have x2 := hx 2 _ rfl
        have x3 := hx 3 _ rfl
        have ww : IntKind.i64.wrap wt = wt := by rw [IntKind.wrap_i64]; omega
        have wn : IntKind.i64.wrap (now + wt) = now + wt := by rw [IntKind.wrap_i64]; omega
        clear hx hy hsv
        go_upto_if 66 with fail
        clear x0 x1 x2 x3
        go_cut [14, 15, 19] from 56 to 168 (fun vc0 vt0 l wx => ∃ vc' vt' : Value, vc' = vc0 ∧ vt' = vt0 ∧ ∃ xs' ys' came' taken' drops, CSt W wx V0.heap.size (V0.heap.size + 1) A B room (now + wt) (k + 1) vc' vt' xs' ys' came' taken' gone ∧ RdPk wx l drops ∧ Du.Keep (k + 1) xs' ys' came' taken' (gone ++ Du.nums drops) ∧ (∀ d ∈ drops, d.number ∉ gone) ∧ drops.Pairwise (fun p q => p.number ≠ q.number) ∧ drops.length ≤ 500)
        case first =>
          obtain ⟨g0, go, lc0, v0, s0, a1, c1, a2, c2, hq, hqi⟩ := HST.out.q
          have HQ := Lib.hid hq
          have HQI := Lib.hid hqi
          have zk := hq.lt
          have zm := HST.out.m.lt
          have zW := HST.out.kb
          have zB := HST.out.bb
          clear hq hqi
          cases tk with
          | true =>
            obtain ⟨xs', ys', row', s', got, drops, ho⟩ : ∃ xs' ys' r s' got dr, Du.take A B (now + wt) xs ys v0 s0 [] = ⟨xs', ys', r, s', got, dr⟩ := ⟨_, _, _, _, _, _, rfl⟩
            obtain ⟨hkp, hdf, hdp, hda, hgm⟩ := Du.keep_take HKEEP.out ho
            have hdl := take_drops0 ho
            have hsh := HQI.out.ok.short
            have HO := Lib.hid ho
            have HKP := Lib.hid hkp
            have HDF := Lib.hid hdf
            have HDP := Lib.hid hdp
            have HDA := Lib.hid hda
            have HGM := Lib.hid hgm
            clear ho hkp hdf hdp hda hgm
            go_wp2_with (first | (refine wpList_load_mid rfl 28 _ rfl V0.heap.size 0 rfl (dqList A B room (some ⟨g0, go, none⟩) lc0 v0 now s0) _ (HQ.out.below (by exact below_new (Below.refl _ _) _)).range Tryd.underlying28 rfl (by kernel_rfl) ?_))
            rcases got with _ | ⟨p0, p1, p2, p3, p4, p5, pa, pm⟩
            · as_aux_lemma =>
              refine (take_fr (HQI.out.below (by exact below_new (Below.refl _ _) _)) lc0 s0 (table_below HT.out (by exact below_on HST.out.below (below_new (Below.refl _ _) _))) (now + wt) (by omega) (by omega) HO.out default false rfl rfl).mono ?_
              rintro e V ⟨g, e1, f1, e2, f2, da, dc, rfl, hb, hqn, t1, t2, hd, hf⟩
              obtain ⟨m, hm⟩ : ∃ m, drops.length = m := ⟨_, rfl⟩
              rw [hm] at hd hf ⊢
              have hbw : Below wr.heap.size wr V := below_on (by exact below_new (Below.refl _ _) _) hb
              have HF := Lib.hid (hf.mono (w := wr) (by simp))
              have HBW := Lib.hid hbw
              have HQN := Lib.hid hqn
              have HT1 := Lib.hid t1
              have HT2 := Lib.hid t2
              have HD := Lib.hid hd
              have HM := Lib.hid hm
              have zv := hbw.size
              clear hb hbw hqn t1 t2 hd hf hm
              go_wp2_with fail
              refine (some_any (.slice da m dc) drops true _ (rdPk_below HD.out (by exact (by repeat (first | exact Below.refl _ _ | refine below_drawnN ?_ _ | refine below_drawn ?_ | refine below_new ?_ _)))) (by have := HM.out; omega)).mono ?_
              rw [only_none HDA.out]
              rintro e V2 ⟨v, rfl, hov, hb2⟩
              obtain ⟨oa, oc, rfl⟩ := hov.slice
              have HV2 : RowKit.Hid (Below V.heap.size V V2) := Lib.hid (below_on (by exact (by repeat (first | exact Below.refl _ _ | refine below_drawnN ?_ _ | refine below_drawn ?_ | refine below_new ?_ _))) hb2)
              have hq20 : Blk V2 V.heap.size (dqList A B room (some ⟨g, 15, none⟩) 2 row' (now + wt) s') := Blk.below (Blk.below (Blk.new V (dqList A B room (some ⟨g, 15, none⟩) 2 row' (now + wt) s').toArray 28) (by exact (by repeat (first | exact Below.refl _ _ | refine below_drawnN ?_ _ | refine below_drawn ?_ | refine below_new ?_ _)))) hb2
              have hp21 : Blk V2 (V.heap.size + 1) (pktList default) := Blk.below (blk_new_at (V.alloc (.cells (dqList A B room (some ⟨g, 15, none⟩) 2 row' (now + wt) s').toArray 28)) (pktList default).toArray 30 (by simp)) hb2
              have HQ20 := Lib.hid hq20
              have HP21 := Lib.hid hp21
              have zv2 := hp21.lt
              simp only [List.length_nil]
              clear hov hb2 hq20 hp21
              have HTQ : RowKit.Hid (Blk V2 V0.heap.size (dqList A B room (some ⟨g0, go, none⟩) lc0 v0 now s0)) := Lib.hid ((HQ.out.below HBW.out).below HV2.out)
              go_wp2_with (first | (refine wpList_load_mid rfl 28 (.tmp 20) rfl V.heap.size 0 rfl (dqList A B room (some ⟨g, 15, none⟩) 2 row' (now + wt) s') _ HQ20.out.range Tryd.underlying28 rfl (by kernel_rfl) ?_) | (refine wpList_store_blk rfl 28 (.tmp 12) (.tmp 101) rfl V0.heap.size (dqList A B room (some ⟨g0, go, none⟩) lc0 v0 now s0) (dqList A B room (some ⟨g, 15, none⟩) 2 row' (now + wt) s') rfl rfl HTQ.out (by kernel_rfl) rfl (dqList_one _ _ _ _ _ _ _ _) ?_; intro V6 hq6 hg6))
              have HE := Lib.hid (cst_same HST.out HBW.out HQN.out HT1.out HT2.out HD.out HF.out HV2.out hg6 hq6)
              clear hg6 hq6
              go_meet
              case rel => exact ⟨_, _, rfl, rfl, xs', ys', came, taken, drops, HE.out.1, HE.out.2, by simpa using HKP.out, HDF.out, HDP.out, by have := HM.out; omega⟩
            · cases pa with
              | false =>
                obtain rfl : pm = false := HGM.out _ rfl rfl
                as_aux_lemma =>
                  refine (take_fr (HQI.out.below (by exact below_new (Below.refl _ _) _)) lc0 s0 (table_below HT.out (by exact below_on HST.out.below (below_new (Below.refl _ _) _))) (now + wt) (by omega) (by omega) HO.out ⟨p0, p1, p2, p3, p4, p5, false, false⟩ true rfl rfl).mono ?_
                  rintro e V ⟨g, e1, f1, e2, f2, da, dc, rfl, hb, hqn, t1, t2, hd, hf⟩
                  obtain ⟨m, hm⟩ : ∃ m, drops.length = m := ⟨_, rfl⟩
                  rw [hm] at hd hf ⊢
                  have hbw : Below wr.heap.size wr V := below_on (by exact below_new (Below.refl _ _) _) hb
                  have HF := Lib.hid (hf.mono (w := wr) (by simp))
                  have HBW := Lib.hid hbw
                  have HQN := Lib.hid hqn
                  have HT1 := Lib.hid t1
                  have HT2 := Lib.hid t2
                  have HD := Lib.hid hd
                  have HM := Lib.hid hm
                  have zv := hbw.size
                  clear hb hbw hqn t1 t2 hd hf hm
                  go_wp2_with fail
                  refine (some_any (.slice da m dc) drops true _ (rdPk_below HD.out (by exact (by repeat (first | exact Below.refl _ _ | refine below_drawnN ?_ _ | refine below_drawn ?_ | refine below_new ?_ _)))) (by have := HM.out; omega)).mono ?_
                  rw [only_none HDA.out]
                  rintro e V2 ⟨v, rfl, hov, hb2⟩
                  obtain ⟨oa, oc, rfl⟩ := hov.slice
                  have HV2 : RowKit.Hid (Below V.heap.size V V2) := Lib.hid (below_on (by exact (by repeat (first | exact Below.refl _ _ | refine below_drawnN ?_ _ | refine below_drawn ?_ | refine below_new ?_ _))) hb2)
                  have hq20 : Blk V2 V.heap.size (dqList A B room (some ⟨g, 15, none⟩) 2 row' (now + wt) s') := Blk.below (Blk.below (Blk.new V (dqList A B room (some ⟨g, 15, none⟩) 2 row' (now + wt) s').toArray 28) (by exact (by repeat (first | exact Below.refl _ _ | refine below_drawnN ?_ _ | refine below_drawn ?_ | refine below_new ?_ _)))) hb2
                  have hp21 : Blk V2 (V.heap.size + 1) (pktList ⟨p0, p1, p2, p3, p4, p5, false, false⟩) := Blk.below (blk_new_at (V.alloc (.cells (dqList A B room (some ⟨g, 15, none⟩) 2 row' (now + wt) s').toArray 28)) (pktList ⟨p0, p1, p2, p3, p4, p5, false, false⟩).toArray 30 (by simp)) hb2
                  have HQ20 := Lib.hid hq20
                  have HP21 := Lib.hid hp21
                  have zv2 := hp21.lt
                  simp only [List.length_nil]
                  clear hov hb2 hq20 hp21
                  have HOT : RowKit.Hid (OwnP V2 W.heap.size vt taken) := Lib.hid (own_below8 (own_below8 HST.out.t HBW.out) HV2.out)
                  have HTQ : RowKit.Hid (Blk V2 V0.heap.size (dqList A B room (some ⟨g0, go, none⟩) lc0 v0 now s0)) := Lib.hid ((HQ.out.below HBW.out).below HV2.out)
                  have zt := HST.out.lt
                  have zc := HST.out.tk
                  have zo : ∀ b, vt.ownBlock = some b → b < wr.heap.size := fun b e => (HST.out.t.lt b e).2
                  go_wp2_with (first | (refine wpList_load_mid rfl 30 (.tmp 21) rfl (V.heap.size + 1) 0 rfl (pktList ⟨p0, p1, p2, p3, p4, p5, false, false⟩) _ HP21.out.range Tryd.underlying30 rfl (by kernel_rfl) ?_) | (refine wpList_build_pkt rfl (.tmp 98) rfl ⟨p0, p1, p2, p3, p4, p5, false, false⟩ rfl ?_) | (refine wpList_add_pkt_at rfl (.tmp 97) (.tmp 99) rfl rfl (own_below8 HOT.out (below_new (Below.refl _ _) _)) (by simp; omega) _ 0 ⟨p0, p1, p2, p3, p4, p5, false, false⟩ rfl (by exact (Blk.new _ (pktList ⟨p0, p1, p2, p3, p4, p5, false, false⟩).toArray 30).range) (by omega) ?_; intro vt' V5 hown5 hgr5 hat5; have HO5 := Lib.hid hown5; have HG5 := Lib.hid hgr5; have HA5 := Lib.hid hat5; have HQ5 : RowKit.Hid (Blk V5 V.heap.size (dqList A B room (some ⟨g, 15, none⟩) 2 row' (now + wt) s')) := Lib.hid ((HQ20.out.below (below_new (Below.refl _ _) _)).kept hgr5 (fun e => by have := zo _ e.symm; omega)); have HK5 : RowKit.Hid (Blk V5 V0.heap.size (dqList A B room (some ⟨g0, go, none⟩) lc0 v0 now s0)) := Lib.hid ((HTQ.out.below (below_new (Below.refl _ _) _)).kept hgr5 (fun e => zc e.symm)); clear hown5 hgr5 hat5) | (refine wpList_load_mid rfl 28 (.tmp 20) rfl V.heap.size 0 rfl (dqList A B room (some ⟨g, 15, none⟩) 2 row' (now + wt) s') _ HQ5.out.range Tryd.underlying28 rfl (by kernel_rfl) ?_) | (refine wpList_store_blk rfl 28 (.tmp 12) (.tmp 101) rfl V0.heap.size (dqList A B room (some ⟨g0, go, none⟩) lc0 v0 now s0) (dqList A B room (some ⟨g, 15, none⟩) 2 row' (now + wt) s') rfl rfl HK5.out (by kernel_rfl) rfl (dqList_one _ _ _ _ _ _ _ _) ?_; intro V6 hq6 hg6))
                  have HE := Lib.hid (cst_taken HST.out HBW.out HQN.out HT1.out HT2.out HD.out HF.out (below_on HV2.out (below_new (Below.refl _ _) _)) HG5.out HO5.out HA5.out hg6 hq6)
                  clear hg6 hq6
                  go_meet
                  case rel => exact ⟨_, _, rfl, rfl, xs', ys', came, taken ++ [⟨p0, p1, p2, p3, p4, p5, false, false⟩], drops, HE.out.1, HE.out.2, HKP.out, HDF.out, HDP.out, by have := HM.out; omega⟩
              | true =>
                as_aux_lemma =>
                  refine (take_fr (HQI.out.below (by exact below_new (Below.refl _ _) _)) lc0 s0 (table_below HT.out (by exact below_on HST.out.below (below_new (Below.refl _ _) _))) (now + wt) (by omega) (by omega) HO.out ⟨p0, p1, p2, p3, p4, p5, true, pm⟩ true rfl rfl).mono ?_
                  rintro e V ⟨g, e1, f1, e2, f2, da, dc, rfl, hb, hqn, t1, t2, hd, hf⟩
                  obtain ⟨m, hm⟩ : ∃ m, drops.length = m := ⟨_, rfl⟩
                  rw [hm] at hd hf ⊢
                  have hbw : Below wr.heap.size wr V := below_on (by exact below_new (Below.refl _ _) _) hb
                  have HF := Lib.hid (hf.mono (w := wr) (by simp))
                  have HBW := Lib.hid hbw
                  have HQN := Lib.hid hqn
                  have HT1 := Lib.hid t1
                  have HT2 := Lib.hid t2
                  have HD := Lib.hid hd
                  have HM := Lib.hid hm
                  have zv := hbw.size
                  clear hb hbw hqn t1 t2 hd hf hm
                  go_wp2_with fail
                  refine (some_any (.slice da m dc) drops true _ (rdPk_below HD.out (by exact (by repeat (first | exact Below.refl _ _ | refine below_drawnN ?_ _ | refine below_drawn ?_ | refine below_new ?_ _)))) (by have := HM.out; omega)).mono ?_
                  rw [only_none HDA.out]
                  rintro e V2 ⟨v, rfl, hov, hb2⟩
                  obtain ⟨oa, oc, rfl⟩ := hov.slice
                  have HV2 : RowKit.Hid (Below V.heap.size V V2) := Lib.hid (below_on (by exact (by repeat (first | exact Below.refl _ _ | refine below_drawnN ?_ _ | refine below_drawn ?_ | refine below_new ?_ _))) hb2)
                  have hq20 : Blk V2 V.heap.size (dqList A B room (some ⟨g, 15, none⟩) 2 row' (now + wt) s') := Blk.below (Blk.below (Blk.new V (dqList A B room (some ⟨g, 15, none⟩) 2 row' (now + wt) s').toArray 28) (by exact (by repeat (first | exact Below.refl _ _ | refine below_drawnN ?_ _ | refine below_drawn ?_ | refine below_new ?_ _)))) hb2
                  have hp21 : Blk V2 (V.heap.size + 1) (pktList ⟨p0, p1, p2, p3, p4, p5, true, pm⟩) := Blk.below (blk_new_at (V.alloc (.cells (dqList A B room (some ⟨g, 15, none⟩) 2 row' (now + wt) s').toArray 28)) (pktList ⟨p0, p1, p2, p3, p4, p5, true, pm⟩).toArray 30 (by simp)) hb2
                  have HQ20 := Lib.hid hq20
                  have HP21 := Lib.hid hp21
                  have zv2 := hp21.lt
                  simp only [List.length_nil]
                  clear hov hb2 hq20 hp21
                  have HOT : RowKit.Hid (OwnP V2 W.heap.size vt taken) := Lib.hid (own_below8 (own_below8 HST.out.t HBW.out) HV2.out)
                  have HTQ : RowKit.Hid (Blk V2 V0.heap.size (dqList A B room (some ⟨g0, go, none⟩) lc0 v0 now s0)) := Lib.hid ((HQ.out.below HBW.out).below HV2.out)
                  have zt := HST.out.lt
                  have zc := HST.out.tk
                  have zo : ∀ b, vt.ownBlock = some b → b < wr.heap.size := fun b e => (HST.out.t.lt b e).2
                  go_wp2_with (first | (refine wpList_load_mid rfl 30 (.tmp 21) rfl (V.heap.size + 1) 0 rfl (pktList ⟨p0, p1, p2, p3, p4, p5, true, pm⟩) _ HP21.out.range Tryd.underlying30 rfl (by kernel_rfl) ?_) | (refine wpList_build_pkt rfl (.tmp 98) rfl ⟨p0, p1, p2, p3, p4, p5, true, pm⟩ rfl ?_) | (refine wpList_add_pkt_at rfl (.tmp 97) (.tmp 99) rfl rfl (own_below8 HOT.out (below_new (Below.refl _ _) _)) (by simp; omega) _ 0 ⟨p0, p1, p2, p3, p4, p5, true, pm⟩ rfl (by exact (Blk.new _ (pktList ⟨p0, p1, p2, p3, p4, p5, true, pm⟩).toArray 30).range) (by omega) ?_; intro vt' V5 hown5 hgr5 hat5; have HO5 := Lib.hid hown5; have HG5 := Lib.hid hgr5; have HA5 := Lib.hid hat5; have HQ5 : RowKit.Hid (Blk V5 V.heap.size (dqList A B room (some ⟨g, 15, none⟩) 2 row' (now + wt) s')) := Lib.hid ((HQ20.out.below (below_new (Below.refl _ _) _)).kept hgr5 (fun e => by have := zo _ e.symm; omega)); have HK5 : RowKit.Hid (Blk V5 V0.heap.size (dqList A B room (some ⟨g0, go, none⟩) lc0 v0 now s0)) := Lib.hid ((HTQ.out.below (below_new (Below.refl _ _) _)).kept hgr5 (fun e => zc e.symm)); clear hown5 hgr5 hat5) | (refine wpList_load_mid rfl 28 (.tmp 20) rfl V.heap.size 0 rfl (dqList A B room (some ⟨g, 15, none⟩) 2 row' (now + wt) s') _ HQ5.out.range Tryd.underlying28 rfl (by kernel_rfl) ?_) | (refine wpList_store_blk rfl 28 (.tmp 12) (.tmp 101) rfl V0.heap.size (dqList A B room (some ⟨g0, go, none⟩) lc0 v0 now s0) (dqList A B room (some ⟨g, 15, none⟩) 2 row' (now + wt) s') rfl rfl HK5.out (by kernel_rfl) rfl (dqList_one _ _ _ _ _ _ _ _) ?_; intro V6 hq6 hg6))
                  have HE := Lib.hid (cst_taken HST.out HBW.out HQN.out HT1.out HT2.out HD.out HF.out (below_on HV2.out (below_new (Below.refl _ _) _)) HG5.out HO5.out HA5.out hg6 hq6)
                  clear hg6 hq6
                  go_meet
                  case rel => exact ⟨_, _, rfl, rfl, xs', ys', came, taken ++ [⟨p0, p1, p2, p3, p4, p5, true, pm⟩], drops, HE.out.1, HE.out.2, HKP.out, HDF.out, HDP.out, by have := HM.out; omega⟩
          | false =>
            have hwz : IntKind.i64.wrap sz = sz := by rw [IntKind.wrap_i64]; omega
            have hwz1 : IntKind.i64.wrap (1 + sz) = 1 + sz := by rw [IntKind.wrap_i64]; omega
            obtain ⟨xs', ys', drops, ho⟩ : ∃ xs' ys' dr, putX room xs ys ⟨0, 0, (k : Int), 0, 1 + sz, 0, ab, false⟩ (now + wt) = (xs', ys', dr) := ⟨_, _, _, rfl⟩
            obtain ⟨hkp, hdf, hdl⟩ := Du.keep_put HKEEP.out (p := ⟨0, 0, (k : Int), 0, 1 + sz, 0, ab, false⟩) rfl rfl ho
            have hdp : drops.Pairwise (fun p q => p.number ≠ q.number) := pair_one hdl
            have hpo : (⟨0, 0, (k : Int), 0, 1 + sz, 0, ab, false⟩ : Ea.Pkt).ok := ⟨by simp only; omega, by simp only; omega, by simp only; omega, by simp only; omega, by simp only; omega, by simp only; omega, by simp only; omega, by simp only; omega, by simp only; omega, by simp only; omega, by simp only; omega, by simp only; omega⟩
            have HO := Lib.hid ho
            have HKP := Lib.hid hkp
            have HDF := Lib.hid hdf
            have HDP := Lib.hid hdp
            have HPO := Lib.hid hpo
            clear ho hkp hdf hdp hpo
            go_wp2_with (first | (refine wpList_load_mid rfl 28 (.tmp 12) rfl V0.heap.size 0 rfl (dqList A B room (some ⟨g0, go, none⟩) lc0 v0 now s0) _ (HQ.out.below (by exact (by repeat (first | exact Below.refl _ _ | refine below_drawnN ?_ _ | refine below_drawn ?_ | refine below_new ?_ _)))).range Tryd.underlying28 rfl (by kernel_rfl) ?_) | (refine wpList_load_mid rfl 30 (.tmp 25) rfl (wr.heap.size + 1) 0 rfl (pktList ⟨0, 0, (k : Int), 0, 1 + sz, 0, ab, false⟩) _ (by exact (blk_new_at _ (pktList ⟨0, 0, (k : Int), 0, 1 + sz, 0, ab, false⟩).toArray 30 (by simp)).range) Tryd.underlying30 rfl (by kernel_rfl) ?_))
            refine (put_fr (HQI.out.below (by exact (by repeat (first | exact Below.refl _ _ | refine below_drawnN ?_ _ | refine below_drawn ?_ | refine below_new ?_ _)))) lc0 s0 ⟨0, 0, (k : Int), 0, 1 + sz, 0, ab, false⟩ HPO.out (now + wt) (by omega) (by omega) HO.out).mono ?_
            rintro e V ⟨g, e1, f1, e2, f2, da, dc, rfl, hb, hqn, t1, t2, hd, hf⟩
            obtain ⟨m, hm⟩ : ∃ m, drops.length = m := ⟨_, rfl⟩
            rw [hm] at hd hf hdl ⊢
            have hbw : Below wr.heap.size wr V := below_on (by exact (by repeat (first | exact Below.refl _ _ | refine below_drawnN ?_ _ | refine below_drawn ?_ | refine below_new ?_ _))) hb
            have HF := Lib.hid (hf.mono (w := wr) (by simp; omega))
            have HBW := Lib.hid hbw
            have HQN := Lib.hid hqn
            have HT1 := Lib.hid t1
            have HT2 := Lib.hid t2
            have HD := Lib.hid hd
            have HM := Lib.hid hm
            have zv := hbw.size
            have hp25 : Blk V (wr.heap.size + 1) (pktList ⟨0, 0, (k : Int), 0, 1 + sz, 0, ab, false⟩) := Blk.below (blk_new_at _ (pktList ⟨0, 0, (k : Int), 0, 1 + sz, 0, ab, false⟩).toArray 30 (by simp)) hb
            have HP25 := Lib.hid hp25
            have zp := hp25.lt
            clear hb hbw hqn t1 t2 hd hf hm hp25
            have HOC : RowKit.Hid (OwnP V W.heap.size vc came) := Lib.hid (own_below8 HST.out.c HBW.out)
            have HTQ : RowKit.Hid (Blk V V0.heap.size (dqList A B room (some ⟨g0, go, none⟩) lc0 v0 now s0)) := Lib.hid (HQ.out.below HBW.out)
            have zt := HST.out.lc
            have zc := HST.out.ck
            have zo : ∀ b, vc.ownBlock = some b → b < wr.heap.size := fun b e => (HST.out.c.lt b e).2
            go_wp2_with (first | (refine wpList_load_mid rfl 30 (.tmp 25) rfl (wr.heap.size + 1) 0 rfl (pktList ⟨0, 0, (k : Int), 0, 1 + sz, 0, ab, false⟩) _ (HP25.out.below (by exact (by repeat (first | exact Below.refl _ _ | refine below_drawnN ?_ _ | refine below_drawn ?_ | refine below_new ?_ _)))).range Tryd.underlying30 rfl (by kernel_rfl) ?_) | (refine wpList_build_pkt rfl (.tmp 122) rfl ⟨0, 0, (k : Int), 0, 1 + sz, 0, ab, false⟩ rfl ?_) | (refine wpList_add_pkt_at rfl (.tmp 121) (.tmp 123) rfl rfl (own_below8 HOC.out (below_new (below_new (Below.refl _ _) _) _)) (by simp; omega) _ 0 ⟨0, 0, (k : Int), 0, 1 + sz, 0, ab, false⟩ rfl (by exact (Blk.new _ (pktList ⟨0, 0, (k : Int), 0, 1 + sz, 0, ab, false⟩).toArray 30).range) (by omega) ?_; intro vc' V5 hown5 hgr5 hat5; have HO5 := Lib.hid hown5; have HG5 := Lib.hid hgr5; have HA5 := Lib.hid hat5; have HQ5 : RowKit.Hid (Blk V5 V.heap.size (dqList A B room (some ⟨g, 15, none⟩) 2 v0 (now + wt) s0)) := Lib.hid (((Blk.new V (dqList A B room (some ⟨g, 15, none⟩) 2 v0 (now + wt) s0).toArray 28).below (below_new (Below.refl _ _) _)).kept hgr5 (fun e => by have := zo _ e.symm; omega)); have HK5 : RowKit.Hid (Blk V5 V0.heap.size (dqList A B room (some ⟨g0, go, none⟩) lc0 v0 now s0)) := Lib.hid ((HTQ.out.below (below_new (below_new (Below.refl _ _) _) _)).kept hgr5 (fun e => zc e.symm)); clear hown5 hgr5 hat5) | (refine wpList_load_mid rfl 28 (.tmp 26) rfl V.heap.size 0 rfl (dqList A B room (some ⟨g, 15, none⟩) 2 v0 (now + wt) s0) _ HQ5.out.range Tryd.underlying28 rfl (by kernel_rfl) ?_) | (refine wpList_store_blk rfl 28 (.tmp 12) (.tmp 125) rfl V0.heap.size (dqList A B room (some ⟨g0, go, none⟩) lc0 v0 now s0) (dqList A B room (some ⟨g, 15, none⟩) 2 v0 (now + wt) s0) rfl rfl HK5.out (by kernel_rfl) rfl (dqList_one _ _ _ _ _ _ _ _) ?_; intro V6 hq6 hg6))
            have HE := Lib.hid (cst_came HST.out HBW.out HQN.out HT1.out HT2.out HD.out HF.out (below_new (below_new (Below.refl _ _) _) _) HG5.out HO5.out HA5.out hg6 hq6)
            clear hg6 hq6
            go_meet
            case rel => exact ⟨_, _, rfl, rfl, xs', ys', came ++ [⟨0, 0, (k : Int), 0, 1 + sz, 0, ab, false⟩], taken, drops, HE.out.1, HE.out.2, HKP.out, HDF.out, HDP.out, by have := HM.out; omega⟩
        case rest =>
          obtain ⟨vc', vt', rfl, rfl, xs', ys', came', taken', drops, hst, hrd, hkp, hdf, hdp, hdl⟩ := hcut
          obtain ⟨m, hm⟩ : ∃ m, drops.length = m := ⟨_, rfl⟩
          obtain ⟨da, dc, rfl, -⟩ := id hrd
          rw [hm] at hrd hdl ⊢
          have hst : CSt W wc V0.heap.size (V0.heap.size + 1) A B room (now + wt) (k + 1) vc' vt' xs' ys' came' taken' (gone ++ Du.nums (drops.take 0)) := by simpa [Du.nums] using hst
          have HS2 := Lib.hid hst
          have HRD := Lib.hid hrd
          have HKP := Lib.hid hkp
          have HDF := Lib.hid hdf
          have HDP := Lib.hid hdp
          have HM := Lib.hid hm
          have HLO : RowKit.Hid (∀ d ∈ drops, 0 ≤ d.number ∧ d.number ≤ 1000000000) := Lib.hid (fun d hd => by
            have := hkp.small d.number (List.mem_append_right _ (List.mem_map.2 ⟨d, hd, rfl⟩))
            omega)
          clear hst hrd hkp hdf hdp hm HST HKEEP
          go_wp2
          go_loopw [129] (fun i wx => ∃ j : Nat, j ≤ m ∧ i = .int .i64 j ∧ CSt W wx V0.heap.size (V0.heap.size + 1) A B room (now + wt) (k + 1) vc' vt' xs' ys' came' taken' (gone ++ Du.nums (drops.take j)) ∧ RdPk wx (.slice da m dc) drops) (fun i _ => m - (intOf i).toNat)
          case atStart => exact ⟨0, Nat.zero_le _, rfl, HS2.out, HRD.out⟩
          case round =>
            obtain ⟨j, hj, rfl, hst, hrd⟩ := hrel
            have HS3 := Lib.hid hst
            have HR3 := Lib.hid hrd
            clear hst hrd HS2 HRD
            by_cases hlt : j < m
            · as_aux_lemma =>
              obtain ⟨da', dc', e, hx⟩ := HR3.out
              injection e with e e4 e3
              subst e e3
              obtain ⟨b, o, rfl, hy⟩ := hx j (by have := HM.out; omega)
              have hfr := drop_fresh HDF.out HDP.out (j := j) (by have := HM.out; omega)
              have hns := nums_snoc (drops := drops) (j := j) (by have := HM.out; omega)
              have hlo := HLO.out (drops.getD j default) (by rw [List.getD_eq_getElem?_getD, List.getElem?_eq_getElem (by have := HM.out; omega)]; exact List.getElem_mem _)
              obtain ⟨d, hd⟩ : ∃ d, drops.getD j default = d := ⟨_, rfl⟩
              rw [hd] at hy hfr hns hlo
              obtain ⟨hl0, hl1⟩ := hlo
              have y0 : wr.cell? ⟨b, o + j * 8, none⟩ = some (.int .i64 d.flow) := hy 0 _ rfl
              have y1 := hy 1 _ rfl
              have y2 := hy 2 _ rfl
              have y3 := hy 3 _ rfl
              have y4 := hy 4 _ rfl
              have y5 := hy 5 _ rfl
              have y6 := hy 6 _ rfl
              have y7 := hy 7 _ rfl
              have HG3 := Lib.hid HS3.out.m
              have HFR := Lib.hid hfr
              have HNS := Lib.hid hns
              have hgl : (gone ++ Du.nums (drops.take j)).length ≤ 1000000 := by
                rw [List.length_append, Du.nums, List.length_map, List.length_take]
                omega
              obtain ⟨G, hG⟩ : ∃ G, gone ++ Du.nums (drops.take j) = G := ⟨_, rfl⟩
              have HGE := Lib.hid hG
              rw [hG] at HG3 HFR hgl
              clear hfr hns hy hd hx hG e4
              go_wp2_with (first | (refine wpList_gone_look rfl (.tmp 133) (.tmp 135) rfl (V0.heap.size + 1) G rfl (HG3.out.below (below_new (Below.refl _ _) _)) d.number rfl hl0 hl1 ?_; rw [HFR.out]) | (refine wpList_gone_add rfl (.tmp 137) (.tmp 139) (.const (.bool true)) rfl (V0.heap.size + 1) G rfl (HG3.out.below (below_new (Below.refl _ _) _)) hgl d.number rfl hl0 hl1 rfl ?_; intro w7 hm7 hg7))
              go_roundw
              case rel =>
                have h8 := HS3.out.below' (below_new (Below.refl wr.heap.size wr) (.cells (pktList d).toArray 30))
                have h9 := rdPk_apart (rdPk_below HR3.out (below_new (Below.refl wr.heap.size wr) (.cells (pktList d).toArray 30))) hg7 (fun ad u hc => h8.m.apart hc)
                exact ⟨j + 1, by omega, by go_num, by rw [HNS.out, ← List.append_assoc, HGE.out]; rw [HGE.out] at h8; exact h8.added hg7 hm7, h9⟩
              case measure => simp [intOf]; omega
            · as_aux_lemma =>
              obtain rfl : j = m := by omega
              have hst : CSt W wr V0.heap.size (V0.heap.size + 1) A B room (now + wt) (k + 1) vc' vt' xs' ys' came' taken' (gone ++ Du.nums drops) := by
                have h := HS3.out
                rw [← HM.out, List.take_length] at h
                exact h
              have HST := Lib.hid hst
              obtain ⟨g0, go, lc0, v0, s0, a1, c1, a2, c2, hq, hqi⟩ := hst.q
              have q4 := hq.cell 4 rfl
              have q5 := hq.cell 5 rfl
              have q13 := hq.cell 13 rfl
              have h1 := hqi.h1
              have h2 := hqi.h2
              have hle := hqi.ok.len
              have hsh := hqi.ok.short
              have zq := hq.lt
              have zg := World.block_lt_of_cell? _ _ h1
              simp only at zg
              have dl : decide (room < (xs'.length : Int) + (ys'.length : Int)) = false := decide_eq_false (by omega)
              have dw : IntKind.i64.wrap ((xs'.length : Int) + (ys'.length : Int)) = (xs'.length : Int) + (ys'.length : Int) := by rw [IntKind.wrap_i64]; omega
              clear hq hqi hst HS3
              go_wp2
              go_quiet (fail)
              go_wp2
              go_roundw
              case rel =>
                refine ⟨vc', vt', rfl, rfl, k + 1, by omega, by go_num, now + wt, by first | rfl | go_num, by omega, by push_cast; omega, xs', ys', came', taken', gone ++ Du.nums drops, HST.out.below' (by exact (by repeat (first | exact Below.refl _ _ | refine below_drawnN ?_ _ | refine below_drawn ?_ | refine below_new ?_ _))), HKP.out, ?_⟩
                have h3 := HM.out
                rw [List.length_append, Du.nums, List.length_map]
                omega
              case measure => simp [intOf]; omega
      · obtain rfl : k = n := by omega
        obtain ⟨w3, rfl⟩ : ∃ w3, w3 = wr := ⟨_, rfl⟩
        obtain ⟨g0, go, lc0, v0, s0, a1, c1, a2, c2, hq, hqi⟩ := HST.out.q
        have HQI := Lib.hid hqi
        have HQ := Lib.hid hq
        have q5 := hq.cell 5 rfl
        have h1 := hqi.h1
        have zq := hq.lt
        have zg := World.block_lt_of_cell? _ _ h1
        simp only at zg
        have hsh := hqi.ok.short
        have lc1 := HST.out.lc
        have lt1 := HST.out.lt
        have HC := Lib.hid HST.out.c
        have HTK := Lib.hid HST.out.t
        have HGN := Lib.hid HST.out.m
        have HBW := Lib.hid HST.out.below
        clear hq hqi HST HST0
        go_wp2
        go_loopw [31, 174] (fun u0 i wx => ∃ v : Value, v = u0 ∧ ∃ j : Nat, j ≤ xs.length ∧ i = .int .i64 j ∧ Below w3.heap.size w3 wx ∧ OwnP wx w3.heap.size v (Du.ps (xs.take j))) (fun _ i _ => xs.length - (intOf i).toNat)
        case atStart => exact ⟨_, rfl, 0, Nat.zero_le _, rfl, Below.refl _ _, OwnP.nil _ _⟩
        case round =>
          obtain ⟨v, rfl, j, hj, rfl, hB, hO⟩ := hrel
          have HB := Lib.hid hB
          have HO := Lib.hid hO
          clear hB hO
          by_cases hlj : j < xs.length
          · as_aux_lemma =>
            obtain ⟨b, o, rfl, hx'⟩ := HQI.out.r1.2 j hlj
            have hx := rangeAt_below hx' HB.out
            have hz := HB.out.size
            have hps := ps_snoc (l := xs) hlj
            have hlen := ps_len xs j
            obtain ⟨x, hxx⟩ : ∃ x, xs.getD j default = x := ⟨_, rfl⟩
            rw [hxx] at hx hps
            have HPS := Lib.hid hps
            clear hxx hx' hps
            have x0 : wr.cell? ⟨b, o + j * 9, none⟩ = some (.int .i64 x.p.flow) := hx 0 _ rfl
            have x1 := hx 1 _ rfl
            have x2 := hx 2 _ rfl
            have x3 := hx 3 _ rfl
            have x4 := hx 4 _ rfl
            have x5 := hx 5 _ rfl
            have x6 := hx 6 _ rfl
            have x7 := hx 7 _ rfl
            have x8 := hx 8 _ rfl
            clear hx
            go_wp2_with (first | (refine wpList_load_mid rfl 30 (.tmp 179) rfl wr.heap.size 0 rfl (pktList x.p) _ (by exact item_range (Blk.new wr (itemList x).toArray 51).range) Tryd.underlying30 rfl (by kernel_rfl) ?_) | (refine wpList_build_pkt rfl (.tmp 180) rfl x.p rfl ?_) | (refine wpList_add_pkt rfl (.tmp 178) (.tmp 181) rfl rfl (own_below8 HO.out (below_new (below_new (Below.refl _ _) _) _)) (by simp; omega) _ 0 x.p rfl (by exact (Blk.new _ (pktList x.p).toArray 30).range) (by omega) ?_; intro v' V5 hown5 hgr5; rw [← HPS.out] at hown5))
            go_roundw
            case rel => exact ⟨_, rfl, j + 1, by omega, by go_num, below_grown (below_new (below_new HB.out _) _) hgr5 (fun b hb => (HO.out.lt b hb).1), hown5⟩
            case measure => simp [intOf]; omega
          · obtain rfl : j = xs.length := by omega
            rw [List.take_length] at HO
            obtain ⟨w4, rfl⟩ : ∃ w4, w4 = wr := ⟨_, rfl⟩
            obtain ⟨v3, rfl⟩ : ∃ v3, v3 = v := ⟨_, rfl⟩
            have HB4 := Lib.hid HB.out
            have HO3 := Lib.hid HO.out
            have h2 := below_cell_of HB.out HQI.out.h2
            have q5 := below_cell_of HB.out (HQ.out.cell 5 rfl)
            have zq := World.block_lt_of_cell? _ _ q5
            have zg := World.block_lt_of_cell? _ _ h2
            simp only at zq zg
            clear HB HO h1
            go_wp2
            go_loopw [32, 189] (fun u0 i wx => ∃ v : Value, v = u0 ∧ ∃ j : Nat, j ≤ ys.length ∧ i = .int .i64 j ∧ Below w4.heap.size w4 wx ∧ OwnP wx w4.heap.size v (Du.ps (ys.take j))) (fun _ i _ => ys.length - (intOf i).toNat)
            case atStart => exact ⟨_, rfl, 0, Nat.zero_le _, rfl, Below.refl _ _, OwnP.nil _ _⟩
            case round =>
              obtain ⟨v, rfl, j, hj, rfl, hB, hO⟩ := hrel
              have HB := Lib.hid hB
              have HO := Lib.hid hO
              clear hB hO
              by_cases hlj : j < ys.length
              · as_aux_lemma =>
                obtain ⟨b, o, rfl, hx'⟩ := (HQI.out.r2.below HB4.out).2 j hlj
                have hx := rangeAt_below hx' HB.out
                have hz := HB.out.size
                have hps := ps_snoc (l := ys) hlj
                have hlen := ps_len ys j
                obtain ⟨x, hxx⟩ : ∃ x, ys.getD j default = x := ⟨_, rfl⟩
                rw [hxx] at hx hps
                have HPS := Lib.hid hps
                clear hxx hx' hps
                have x0 : wr.cell? ⟨b, o + j * 9, none⟩ = some (.int .i64 x.p.flow) := hx 0 _ rfl
                have x1 := hx 1 _ rfl
                have x2 := hx 2 _ rfl
                have x3 := hx 3 _ rfl
                have x4 := hx 4 _ rfl
                have x5 := hx 5 _ rfl
                have x6 := hx 6 _ rfl
                have x7 := hx 7 _ rfl
                have x8 := hx 8 _ rfl
                clear hx
                go_wp2_with (first | (refine wpList_load_mid rfl 30 (.tmp 194) rfl wr.heap.size 0 rfl (pktList x.p) _ (by exact item_range (Blk.new wr (itemList x).toArray 51).range) Tryd.underlying30 rfl (by kernel_rfl) ?_) | (refine wpList_build_pkt rfl (.tmp 195) rfl x.p rfl ?_) | (refine wpList_add_pkt rfl (.tmp 193) (.tmp 196) rfl rfl (own_below8 HO.out (below_new (below_new (Below.refl _ _) _) _)) (by simp; omega) _ 0 x.p rfl (by exact (Blk.new _ (pktList x.p).toArray 30).range) (by omega) ?_; intro v' V5 hown5 hgr5; rw [← HPS.out] at hown5))
                go_roundw
                case rel => exact ⟨_, rfl, j + 1, by omega, by go_num, below_grown (below_new (below_new HB.out _) _) hgr5 (fun b hb => (HO.out.lt b hb).1), hown5⟩
                case measure => simp [intOf]; omega
              · obtain rfl : j = ys.length := by omega
                rw [List.take_length] at HO
                obtain ⟨w5, rfl⟩ : ∃ w5, w5 = wr := ⟨_, rfl⟩
                obtain ⟨v4, rfl⟩ : ∃ v4, v4 = v := ⟨_, rfl⟩
                have HB5 := Lib.hid (below_on HB4.out HB.out)
                have HO4 := Lib.hid HO.out
                have HO35 := Lib.hid (own_below8 HO3.out HB.out)
                have HC := Lib.hid (own_below8 HC.out HB5.out)
                have HTK := Lib.hid (own_below8 HTK.out HB5.out)
                have HGN := Lib.hid (HGN.out.below HB5.out)
                have HBW := Lib.hid (below_on HBW.out HB5.out)
                have HR5 := Lib.hid (Below.refl w5.heap.size w5)
                clear HB HO h2 q5 zq zg HB4 HB5 HO3 HQ HQI
                as_aux_lemma =>
                  go_wp2_with fail
                  refine (some_any vc came true _ (rdPk_below (OwnP.rd HC.out) HR5.out) (by omega)).mono ?_
                  rintro e wA ⟨va, rfl, hoa, hba⟩
                  have HBA := Lib.hid (below_on HR5.out hba)
                  have HVA := Lib.hid hoa
                  clear hoa hba
                  go_wp2_with fail
                  refine (some_any vt taken true wA (rdPk_below (OwnP.rd HTK.out) HBA.out) (by omega)).mono ?_
                  rintro e wB ⟨vb, rfl, hob, hbb⟩
                  have HBB := Lib.hid hbb
                  have HVB := Lib.hid hob
                  have zA := hbb.size
                  have lA := only_len true taken
                  have lC := only_len true came
                  have lX := ps_len0 xs
                  clear hob hbb
                  iterate 6 (first | go_values | go_skip | go_guarded | go_step | go_upon | go_in | go_back | go_simp)
                  refine wp_add_pkts (.tmp 204) (.tmp 205) rfl rfl HVB.out zA rfl (own_below8 (own_below8 HO35.out HBA.out) HBB.out) (by omega) (by omega) ?_
                  intro vd V hown hgr
                  go_wp2_with fail
                  have HBV : RowKit.Hid (Below wA.heap.size wA V) := Lib.hid (below_grown HBB.out hgr (fun b hb => (HVB.out.lt b hb).1))
                  refine (inside_yes va vd (Du.only true came) (Du.only true taken ++ Du.ps xs) gone _ V (OwnP.rd (own_below8 HVA.out HBV.out)) (OwnP.rd hown) ((HGN.out.below HBA.out).below HBV.out) (by omega) (by rw [List.length_append]; omega) (fun p hp => by have := HKEEP.out.low p (Du.mem_only.1 hp).1; omega) HKEEP.out.one).mono ?_
                  rintro e wD ⟨rfl, hbd⟩
                  have HB6 := Lib.hid (below_on HBA.out (below_on HBV.out hbd))
                  clear hown hgr hbd HBV HVB HVA HBB HBA zA
                  go_wp2_with fail
                  refine (some_any vc came false _ (rdPk_below (OwnP.rd HC.out) HB6.out) (by omega)).mono ?_
                  rintro e wA ⟨va, rfl, hoa, hba⟩
                  have HBA := Lib.hid (below_on HB6.out hba)
                  have HVA := Lib.hid hoa
                  clear hoa hba
                  go_wp2_with fail
                  refine (some_any vt taken false wA (rdPk_below (OwnP.rd HTK.out) HBA.out) (by omega)).mono ?_
                  rintro e wB ⟨vb, rfl, hob, hbb⟩
                  have HBB := Lib.hid hbb
                  have HVB := Lib.hid hob
                  have zA := hbb.size
                  have lA := only_len false taken
                  have lC := only_len false came
                  have lX := ps_len0 ys
                  clear hob hbb
                  iterate 6 (first | go_values | go_skip | go_guarded | go_step | go_upon | go_in | go_back | go_simp)
                  refine wp_add_pkts (.tmp 214) (.tmp 215) rfl rfl HVB.out zA rfl (own_below8 (own_below8 HO4.out HBA.out) HBB.out) (by omega) (by omega) ?_
                  intro vd V hown hgr
                  go_wp2_with fail
                  have HBV : RowKit.Hid (Below wA.heap.size wA V) := Lib.hid (below_grown HBB.out hgr (fun b hb => (HVB.out.lt b hb).1))
                  refine (inside_yes va vd (Du.only false came) (Du.only false taken ++ Du.ps ys) gone _ V (OwnP.rd (own_below8 HVA.out HBV.out)) (OwnP.rd hown) ((HGN.out.below HBA.out).below HBV.out) (by omega) (by rw [List.length_append]; omega) (fun p hp => by have := HKEEP.out.low p (Du.mem_only.1 hp).1; omega) HKEEP.out.two).mono ?_
                  rintro e wD ⟨rfl, hbd⟩
                  have HB7 := Lib.hid (below_on HBA.out (below_on HBV.out hbd))
                  clear hown hgr hbd HBV HVB HVA HBB HBA zA
                  go_wp2
                  go_ret
                  exact ⟨rfl, below_on HBW.out HB7.out⟩
end Go.Proofs.YtdecclklenaoaaaDoor
