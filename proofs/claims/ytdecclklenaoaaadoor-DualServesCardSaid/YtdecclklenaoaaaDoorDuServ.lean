/- The statement DualServes: it returns true, whatever the input, and leaves what was in memory alone. -/
import Derived.Test.YtdecclklenaoaaaDoorDuHeadB
import Derived.Test.YtdecclklenaoaaaDoorDuCls
import Derived.Test.YtdecclklenaoaaaDoorEaPar
namespace Go.Proofs.YtdecclklenaoaaaDoor
open Go.RowKit

/-- The state at the head of a round. -/
def ServSt (W V : World) (A B room : Int) (now : Int) (rw : Int) : Prop :=
  ∃ ab ao lc v0 v7 s a1 n1 c1 xs a2 n2 c2 ys, Blk V W.heap.size (dqList A B room (some ⟨ab, ao, none⟩) lc v0 v7 s) ∧ QIn V A B room ab ao v0 v7 a1 n1 c1 xs a2 n2 c2 ys ∧ v7 ≤ now ∧ Below W.heap.size W V ∧ 0 ≤ rw ∧ rw ≤ 15 ∧ (n2 = 0 ∨ rw ≤ v0)
set_option maxRecDepth 100000 in
set_option maxHeartbeats 8000000 in
theorem serv_entry (kind A B C room : Int) (la : Option Addr) (ln lc : Nat) (v0 v1 v2 v3 v4 v5 v6 v7 : Int) (s : Nat) (now many : Int) (W : World) (hL : RdLs W la ln) (hln : (ln : Int) ≤ 9223372036854775807) (_ : (Lit.int .i64 now).wf = true) (hmw : (Lit.int .u8 many).wf = true) (ht : Table W) :
    Calls Tryd.prog 6 #[.agg #[.int .i64 kind, .int .i64 A, .int .i64 B, .int .i64 C, .int .i64 room, .slice la ln lc, .int .i64 v0, .int .i64 v1, .int .i64 v2, .int .i64 v3, .int .i64 v4, .int .i64 v5, .int .i64 v6, .int .i64 v7, .int .u64 (s : Int)], .int .i64 now, .int .u8 many] W fun e V => e = .returned (.bool true) ∧ Below W.heap.size W V := by
  have hmb : 0 ≤ many ∧ many ≤ 255 := by
    simp only [Lit.wf, Bool.and_eq_true, decide_eq_true_eq] at hmw
    exact hmw
  clear hmw
  have HL := Lib.hid hL
  have HT := Lib.hid ht
  clear hL ht
  go_enter Tryd.func6, Tryd.ntmps6
  go_wp2_with fail
  refine (head_ok _ (table_below HT.out (by exact below_new (Below.refl _ _) _))).mono ?_
  rintro e w1 ⟨rfl, hb1⟩
  have HB1 := Lib.hid (below_on (w := W) (by exact below_new (Below.refl _ _) _) hb1)
  have HQ1 : RowKit.Hid (Blk w1 W.heap.size [.int .i64 kind, .int .i64 A, .int .i64 B, .int .i64 C, .int .i64 room, .slice la ln lc, .int .i64 v0, .int .i64 v1, .int .i64 v2, .int .i64 v3, .int .i64 v4, .int .i64 v5, .int .i64 v6, .int .i64 v7, .int .u64 (s : Int)]) := Lib.hid ((Blk.new W #[.int .i64 kind, .int .i64 A, .int .i64 B, .int .i64 C, .int .i64 room, .slice la ln lc, .int .i64 v0, .int .i64 v1, .int .i64 v2, .int .i64 v3, .int .i64 v4, .int .i64 v5, .int .i64 v6, .int .i64 v7, .int .u64 (s : Int)] 28).below hb1)
  clear hb1
  go_wp2_with (refine wpList_load_mid rfl 28 _ rfl W.heap.size 0 rfl [.int .i64 kind, .int .i64 A, .int .i64 B, .int .i64 C, .int .i64 room, .slice la ln lc, .int .i64 v0, .int .i64 v1, .int .i64 v2, .int .i64 v3, .int .i64 v4, .int .i64 v5, .int .i64 v6, .int .i64 v7, .int .u64 (s : Int)] _ HQ1.out.range Tryd.underlying28 rfl (by kernel_rfl) ?_)
  refine (usable_any kind A B C room la ln lc v0 v1 v2 v3 v4 v5 v6 v7 s now w1 (HL.out.below HB1.out) hln).mono ?_
  rintro e w2 ⟨⟨b, rfl, hus⟩, hb2⟩
  have HUS := Lib.hid hus
  have HB2 := Lib.hid (below_on HB1.out hb2)
  have HQ2 := Lib.hid (HQ1.out.below hb2)
  have HB12 := Lib.hid hb2
  clear hus hb2 HQ1
  cases b with
  | false =>
    go_wp2
    go_ret
    exact ⟨rfl, HB2.out⟩
  | true =>
    obtain ⟨⟨rfl, rfl, rfl, rfl, rfl, rfl, rfl, rfl, rfl, ab, ao, a1, n1, c1, xs, a2, n2, c2, ys, rfl, hq⟩, t0, t1, t2⟩ := HUS.out rfl
    have HIN := Lib.hid (hq.below HB12.out)
    have HOK := Lib.hid hq.ok
    have HTB := Lib.hid (table_below HT.out HB2.out)
    have hl1 := hq.r1.1
    have hl2 := hq.r2.1
    have hsh := hq.ok.short
    have HQ2 : RowKit.Hid (Blk w2 W.heap.size (dqList A B room (some ⟨ab, ao, none⟩) lc v0 v7 s)) := HQ2
    have hzq := HQ2.out.lt
    clear hq HUS HB12 HB1 HL
    have hcv : IntKind.i64.wrap many = many := by rw [IntKind.wrap_i64]; omega
    obtain ⟨M, hM⟩ : ∃ M : Nat, many % 40 = (M : Int) := ⟨(many % 40).toNat, by omega⟩
    have hst : ServSt W w2 A B room now 0 := ⟨ab, ao, lc, v0, v7, s, a1, n1, c1, xs, a2, n2, c2, ys, HQ2.out, HIN.out, t0, HB2.out, by omega, by omega, Or.inr HOK.out.m0⟩
    have HST := Lib.hid hst
    clear hst HQ2 HIN HTB HOK hzq hl1 hl2 hsh t0
    go_wp2
    simp only [hM]
    have hMb : M ≤ 40 := by omega
    clear hM
    go_loopw [8, 25] (fun r i wr => ∃ k : Nat, k ≤ M ∧ i = .int .i64 k ∧ ∃ rw0 : Int, r = .int .i64 rw0 ∧ ServSt W wr A B room now rw0) (fun _ i _ => M - (intOf i).toNat)
    case atStart => exact ⟨0, Nat.zero_le _, rfl, 0, rfl, HST.out⟩
    case round =>
      obtain ⟨k, hk, rfl, rw0, rfl, hst⟩ := hrel
      have HS := Lib.hid hst
      clear hst HST HQ2 HB2
      by_cases hlt : k < M
      · obtain ⟨ab, ao, lc, v0, v7, s, a1, n1, c1, xs, a2, n2, c2, ys, hq, hi, t0, hB, r0, r1, hr⟩ := HS.out
        clear HS
        obtain ⟨xs1, ys1, row1, s1, got1, dr1, ho1⟩ : ∃ xs1 ys1 r1 s1 got1 dr1, Du.take A B now xs ys v0 s [] = ⟨xs1, ys1, r1, s1, got1, dr1⟩ := ⟨_, _, _, _, _, _, rfl⟩
        have hcls := Du.take_cls hi.ok.m0 hi.ok.ax hi.ok.ay ho1
        obtain ⟨p1, hp1⟩ : ∃ p, got1.getD default = p := ⟨_, rfl⟩
        obtain ⟨i1, hi1⟩ : ∃ i, got1.isSome = i := ⟨_, rfl⟩
        obtain ⟨m1, hm1⟩ : ∃ m, dr1.length = m := ⟨_, rfl⟩
        obtain ⟨k1, hk1⟩ : ∃ m, ys1.length = m := ⟨_, rfl⟩
        rw [hi.r1.1, hi.r2.1, hp1, hi1, hm1, hk1] at hcls
        have hm1' := hi.ok.m1
        have hl1 := hi.r1.1
        have hl2 := hi.r2.1
        have hsh := hi.ok.short
        have HO1 := Lib.hid ho1
        have HP1' := Lib.hid hp1
        have HI1 := Lib.hid hi1
        have HM1 := Lib.hid hm1
        have HK1 := Lib.hid hk1
        have HQ := Lib.hid hq
        have HI := Lib.hid hi
        have HB := Lib.hid hB
        have q5 := hq.cell 5 rfl
        have c1' := hi.h1
        have c2' := hi.h2
        have zq := hq.lt
        have zc := World.block_lt_of_cell? _ _ c1'
        simp only at zc
        clear ho1 hp1 hi1 hm1 hk1 hq hi hB
        cases hcls with
        | first k0 k2 k15 hi ha hm hk' hrow =>
          as_aux_lemma =>
            subst hi hm
            replace hk' := hk'.symm
            subst hk'
            have HA := Lib.hid ha
            have HRW := Lib.hid hrow
            clear ha hrow
            go_wp2
            go_quiet (fail)
            go_wp2_with (first | (refine wpList_load_mid rfl 28 _ rfl W.heap.size 0 rfl (dqList A B room (some ⟨ab, ao, none⟩) lc v0 v7 s) _ (HQ.out.below (by exact (by repeat (first | exact Below.refl _ _ | refine below_drawnN ?_ _ | refine below_drawn ?_ | refine below_new ?_ _)))).range Tryd.underlying28 rfl (by kernel_rfl) ?_))
            refine (take_r (HI.out.below (by exact (by repeat (first | exact Below.refl _ _ | refine below_drawnN ?_ _ | refine below_drawn ?_ | refine below_new ?_ _)))) lc s (table_below HT.out (by exact below_on HB.out (by repeat (first | exact Below.refl _ _ | refine below_drawnN ?_ _ | refine below_drawn ?_ | refine below_new ?_ _)))) now t0 t2 HO1.out p1 _ HP1'.out HI1.out).mono ?_
            unfold TakeR
            rw [HM1.out, HK1.out]
            rintro e V2 ⟨g2, e3, f3, e4, f4, da2, dc2, rfl, hb, hqn, -, -, -⟩
            have hbw : Below wr.heap.size wr V2 := below_on (by exact (by repeat (first | exact Below.refl _ _ | refine below_drawnN ?_ _ | refine below_drawn ?_ | refine below_new ?_ _))) hb
            have HB3 := Lib.hid (below_on HB.out hbw)
            have HQ3 := Lib.hid (HQ.out.below hbw)
            have HQN := Lib.hid hqn
            have hltq := HQ3.out.lt
            have n16 := hqn.h2
            have ltg := World.block_lt_of_cell? _ _ n16
            simp only at ltg
            clear hb hbw hqn q5 c1' c2' zq zc
            have ha := HA.out
            have d1 : 0 < (n2 : Int) := by omega
            have d2 : ((n1 : Int) == 0) = false := by simp; omega
            have hrw : rw0 ≤ v0 := by omega
            have d3 : IntKind.i64.wrap (rw0 + 1) = rw0 + 1 := by rw [IntKind.wrap_i64]; omega
            have d4 : decide (15 < rw0 + 1) = false := decide_eq_false (by omega)
            go_wp2_with (first | (refine wpList_store_blk rfl 28 _ _ rfl W.heap.size (dqList A B room (some ⟨ab, ao, none⟩) lc v0 v7 s) (dqList A B room (some ⟨g2, 15, none⟩) 2 row1 now s1) rfl rfl (HQ3.out.below (by exact (by repeat (first | exact Below.refl _ _ | refine below_drawnN ?_ _ | refine below_drawn ?_ | refine below_new ?_ _)))) (by kernel_rfl) rfl (dqList_one _ _ _ _ _ _ _ _) ?_; intro V4 hq4 hg4))
            have hq5 := (HQN.out.below (by exact (by repeat (first | exact Below.refl _ _ | refine below_drawnN ?_ _ | refine below_drawn ?_ | refine below_new ?_ _)))).small (HQ3.out.below (by exact (by repeat (first | exact Below.refl _ _ | refine below_drawnN ?_ _ | refine below_drawn ?_ | refine below_new ?_ _)))) (small_q rfl rfl rfl) hg4
            have hb5 := below_grown (below_on HB3.out (by exact (by repeat (first | exact Below.refl _ _ | refine below_drawnN ?_ _ | refine below_drawn ?_ | refine below_new ?_ _)))) hg4 (fun j hj => by injection hj with hj; omega)
            have hm5 := hq5.ok.m0
            clear hg4
            go_roundw
            case rel => exact ⟨k + 1, by omega, by go_num, rw0 + 1, by first | rfl | go_num, g2, 15, 2, row1, now, s1, e3, xs1.length, f3, xs1, e4, _, f4, ys1, hq4, hq5, Int.le_refl _, hb5, by omega, by omega, Or.inr (by rw [HRW.out]; omega)⟩
            case measure => simp [intOf]; omega
        | after k0 k2 hi ha hm hk' hrow =>
          as_aux_lemma =>
            subst hi
            have HA := Lib.hid ha
            have HRW := Lib.hid hrow
            clear ha hrow
            go_wp2
            go_quiet (fail)
            go_wp2_with (first | (refine wpList_load_mid rfl 28 _ rfl W.heap.size 0 rfl (dqList A B room (some ⟨ab, ao, none⟩) lc v0 v7 s) _ (HQ.out.below (by exact (by repeat (first | exact Below.refl _ _ | refine below_drawnN ?_ _ | refine below_drawn ?_ | refine below_new ?_ _)))).range Tryd.underlying28 rfl (by kernel_rfl) ?_))
            refine (take_r (HI.out.below (by exact (by repeat (first | exact Below.refl _ _ | refine below_drawnN ?_ _ | refine below_drawn ?_ | refine below_new ?_ _)))) lc s (table_below HT.out (by exact below_on HB.out (by repeat (first | exact Below.refl _ _ | refine below_drawnN ?_ _ | refine below_drawn ?_ | refine below_new ?_ _)))) now t0 t2 HO1.out p1 _ HP1'.out HI1.out).mono ?_
            unfold TakeR
            rw [HM1.out, HK1.out]
            rintro e V2 ⟨g2, e3, f3, e4, f4, da2, dc2, rfl, hb, hqn, -, -, -⟩
            have hbw : Below wr.heap.size wr V2 := below_on (by exact (by repeat (first | exact Below.refl _ _ | refine below_drawnN ?_ _ | refine below_drawn ?_ | refine below_new ?_ _))) hb
            have HB3 := Lib.hid (below_on HB.out hbw)
            have HQ3 := Lib.hid (HQ.out.below hbw)
            have HQN := Lib.hid hqn
            have hltq := HQ3.out.lt
            have n16 := hqn.h2
            have ltg := World.block_lt_of_cell? _ _ n16
            simp only at ltg
            clear hb hbw hqn q5 c1' c2' zq zc
            have ha := HA.out
            have d1 : 0 < (n2 : Int) := by omega
            have d2 : ((n1 : Int) == 0) = false := by simp; omega
            have d3 : ((m1 : Int) == 0) = false := by simp; omega
            have d4 : decide ((n2 : Int) ≤ (k1 : Int)) = false := decide_eq_false (by omega)
            go_wp2_with (first | (refine wpList_store_blk rfl 28 _ _ rfl W.heap.size (dqList A B room (some ⟨ab, ao, none⟩) lc v0 v7 s) (dqList A B room (some ⟨g2, 15, none⟩) 2 row1 now s1) rfl rfl (HQ3.out.below (by exact (by repeat (first | exact Below.refl _ _ | refine below_drawnN ?_ _ | refine below_drawn ?_ | refine below_new ?_ _)))) (by kernel_rfl) rfl (dqList_one _ _ _ _ _ _ _ _) ?_; intro V4 hq4 hg4))
            have hq5 := (HQN.out.below (by exact (by repeat (first | exact Below.refl _ _ | refine below_drawnN ?_ _ | refine below_drawn ?_ | refine below_new ?_ _)))).small (HQ3.out.below (by exact (by repeat (first | exact Below.refl _ _ | refine below_drawnN ?_ _ | refine below_drawn ?_ | refine below_new ?_ _)))) (small_q rfl rfl rfl) hg4
            have hb5 := below_grown (below_on HB3.out (by exact (by repeat (first | exact Below.refl _ _ | refine below_drawnN ?_ _ | refine below_drawn ?_ | refine below_new ?_ _)))) hg4 (fun j hj => by injection hj with hj; omega)
            have hm5 := hq5.ok.m0
            clear hg4
            go_roundw
            case rel => exact ⟨k + 1, by omega, by go_num, 1, by first | rfl | go_num, g2, 15, 2, row1, now, s1, e3, xs1.length, f3, xs1, e4, _, f4, ys1, hq4, hq5, Int.le_refl _, hb5, by omega, by omega, HRW.out⟩
            case measure => simp [intOf]; omega
        | other k2 hi ha hk' =>
          as_aux_lemma =>
            subst hi
            have HA := Lib.hid ha
            clear ha
            go_wp2
            go_quiet (fail)
            go_wp2_with (first | (refine wpList_load_mid rfl 28 _ rfl W.heap.size 0 rfl (dqList A B room (some ⟨ab, ao, none⟩) lc v0 v7 s) _ (HQ.out.below (by exact (by repeat (first | exact Below.refl _ _ | refine below_drawnN ?_ _ | refine below_drawn ?_ | refine below_new ?_ _)))).range Tryd.underlying28 rfl (by kernel_rfl) ?_))
            refine (take_r (HI.out.below (by exact (by repeat (first | exact Below.refl _ _ | refine below_drawnN ?_ _ | refine below_drawn ?_ | refine below_new ?_ _)))) lc s (table_below HT.out (by exact below_on HB.out (by repeat (first | exact Below.refl _ _ | refine below_drawnN ?_ _ | refine below_drawn ?_ | refine below_new ?_ _)))) now t0 t2 HO1.out p1 _ HP1'.out HI1.out).mono ?_
            unfold TakeR
            rw [HM1.out, HK1.out]
            rintro e V2 ⟨g2, e3, f3, e4, f4, da2, dc2, rfl, hb, hqn, -, -, -⟩
            have hbw : Below wr.heap.size wr V2 := below_on (by exact (by repeat (first | exact Below.refl _ _ | refine below_drawnN ?_ _ | refine below_drawn ?_ | refine below_new ?_ _))) hb
            have HB3 := Lib.hid (below_on HB.out hbw)
            have HQ3 := Lib.hid (HQ.out.below hbw)
            have HQN := Lib.hid hqn
            have hltq := HQ3.out.lt
            have n16 := hqn.h2
            have ltg := World.block_lt_of_cell? _ _ n16
            simp only at ltg
            clear hb hbw hqn q5 c1' c2' zq zc
            have ha := HA.out
            have d1 : 0 < (n2 : Int) := by omega
            have d4 : decide ((n2 : Int) ≤ (k1 : Int)) = false := decide_eq_false (by omega)
            by_cases hsp : n1 = 0
            · have dsp : ((n1 : Int) == 0) = true := by simp; omega
              go_wp2_with (first | (refine wpList_store_blk rfl 28 _ _ rfl W.heap.size (dqList A B room (some ⟨ab, ao, none⟩) lc v0 v7 s) (dqList A B room (some ⟨g2, 15, none⟩) 2 row1 now s1) rfl rfl (HQ3.out.below (by exact (by repeat (first | exact Below.refl _ _ | refine below_drawnN ?_ _ | refine below_drawn ?_ | refine below_new ?_ _)))) (by kernel_rfl) rfl (dqList_one _ _ _ _ _ _ _ _) ?_; intro V4 hq4 hg4))
              have hq5 := (HQN.out.below (by exact (by repeat (first | exact Below.refl _ _ | refine below_drawnN ?_ _ | refine below_drawn ?_ | refine below_new ?_ _)))).small (HQ3.out.below (by exact (by repeat (first | exact Below.refl _ _ | refine below_drawnN ?_ _ | refine below_drawn ?_ | refine below_new ?_ _)))) (small_q rfl rfl rfl) hg4
              have hb5 := below_grown (below_on HB3.out (by exact (by repeat (first | exact Below.refl _ _ | refine below_drawnN ?_ _ | refine below_drawn ?_ | refine below_new ?_ _)))) hg4 (fun j hj => by injection hj with hj; omega)
              have hm5 := hq5.ok.m0
              clear hg4
              go_roundw
              case rel => exact ⟨k + 1, by omega, by go_num, 0, by first | rfl | go_num, g2, 15, 2, row1, now, s1, e3, xs1.length, f3, xs1, e4, _, f4, ys1, hq4, hq5, Int.le_refl _, hb5, by omega, by omega, Or.inr hm5⟩
              case measure => simp [intOf]; omega
            have dsp : ((n1 : Int) == 0) = false := by simp; omega
            go_wp2_with (first | (refine wpList_store_blk rfl 28 _ _ rfl W.heap.size (dqList A B room (some ⟨ab, ao, none⟩) lc v0 v7 s) (dqList A B room (some ⟨g2, 15, none⟩) 2 row1 now s1) rfl rfl (HQ3.out.below (by exact (by repeat (first | exact Below.refl _ _ | refine below_drawnN ?_ _ | refine below_drawn ?_ | refine below_new ?_ _)))) (by kernel_rfl) rfl (dqList_one _ _ _ _ _ _ _ _) ?_; intro V4 hq4 hg4))
            have hq5 := (HQN.out.below (by exact (by repeat (first | exact Below.refl _ _ | refine below_drawnN ?_ _ | refine below_drawn ?_ | refine below_new ?_ _)))).small (HQ3.out.below (by exact (by repeat (first | exact Below.refl _ _ | refine below_drawnN ?_ _ | refine below_drawn ?_ | refine below_new ?_ _)))) (small_q rfl rfl rfl) hg4
            have hb5 := below_grown (below_on HB3.out (by exact (by repeat (first | exact Below.refl _ _ | refine below_drawnN ?_ _ | refine below_drawn ?_ | refine below_new ?_ _)))) hg4 (fun j hj => by injection hj with hj; omega)
            have hm5 := hq5.ok.m0
            clear hg4
            go_roundw
            case rel => exact ⟨k + 1, by omega, by go_num, 0, by first | rfl | go_num, g2, 15, 2, row1, now, s1, e3, xs1.length, f3, xs1, e4, _, f4, ys1, hq4, hq5, Int.le_refl _, hb5, by omega, by omega, Or.inr hm5⟩
            case measure => simp [intOf]; omega
        | none k2 hi hk' =>
          as_aux_lemma =>
            subst hi
            go_wp2
            go_quiet (fail)
            go_wp2_with (first | (refine wpList_load_mid rfl 28 _ rfl W.heap.size 0 rfl (dqList A B room (some ⟨ab, ao, none⟩) lc v0 v7 s) _ (HQ.out.below (by exact (by repeat (first | exact Below.refl _ _ | refine below_drawnN ?_ _ | refine below_drawn ?_ | refine below_new ?_ _)))).range Tryd.underlying28 rfl (by kernel_rfl) ?_))
            refine (take_r (HI.out.below (by exact (by repeat (first | exact Below.refl _ _ | refine below_drawnN ?_ _ | refine below_drawn ?_ | refine below_new ?_ _)))) lc s (table_below HT.out (by exact below_on HB.out (by repeat (first | exact Below.refl _ _ | refine below_drawnN ?_ _ | refine below_drawn ?_ | refine below_new ?_ _)))) now t0 t2 HO1.out p1 _ HP1'.out HI1.out).mono ?_
            unfold TakeR
            rw [HM1.out, HK1.out]
            rintro e V2 ⟨g2, e3, f3, e4, f4, da2, dc2, rfl, hb, hqn, -, -, -⟩
            have hbw : Below wr.heap.size wr V2 := below_on (by exact (by repeat (first | exact Below.refl _ _ | refine below_drawnN ?_ _ | refine below_drawn ?_ | refine below_new ?_ _))) hb
            have HB3 := Lib.hid (below_on HB.out hbw)
            have HQ3 := Lib.hid (HQ.out.below hbw)
            have HQN := Lib.hid hqn
            have hltq := HQ3.out.lt
            have n16 := hqn.h2
            have ltg := World.block_lt_of_cell? _ _ n16
            simp only at ltg
            clear hb hbw hqn q5 c1' c2' zq zc
            have d1 : 0 < (n2 : Int) := by omega
            have d4 : decide ((n2 : Int) ≤ (k1 : Int)) = false := decide_eq_false (by omega)
            by_cases hsp : n1 = 0
            · have dsp : ((n1 : Int) == 0) = true := by simp; omega
              go_wp2_with (first | (refine wpList_store_blk rfl 28 _ _ rfl W.heap.size (dqList A B room (some ⟨ab, ao, none⟩) lc v0 v7 s) (dqList A B room (some ⟨g2, 15, none⟩) 2 row1 now s1) rfl rfl (HQ3.out.below (by exact (by repeat (first | exact Below.refl _ _ | refine below_drawnN ?_ _ | refine below_drawn ?_ | refine below_new ?_ _)))) (by kernel_rfl) rfl (dqList_one _ _ _ _ _ _ _ _) ?_; intro V4 hq4 hg4))
              have hq5 := (HQN.out.below (by exact (by repeat (first | exact Below.refl _ _ | refine below_drawnN ?_ _ | refine below_drawn ?_ | refine below_new ?_ _)))).small (HQ3.out.below (by exact (by repeat (first | exact Below.refl _ _ | refine below_drawnN ?_ _ | refine below_drawn ?_ | refine below_new ?_ _)))) (small_q rfl rfl rfl) hg4
              have hb5 := below_grown (below_on HB3.out (by exact (by repeat (first | exact Below.refl _ _ | refine below_drawnN ?_ _ | refine below_drawn ?_ | refine below_new ?_ _)))) hg4 (fun j hj => by injection hj with hj; omega)
              have hm5 := hq5.ok.m0
              clear hg4
              go_roundw
              case rel => exact ⟨k + 1, by omega, by go_num, 0, by first | rfl | go_num, g2, 15, 2, row1, now, s1, e3, xs1.length, f3, xs1, e4, _, f4, ys1, hq4, hq5, Int.le_refl _, hb5, by omega, by omega, Or.inr hm5⟩
              case measure => simp [intOf]; omega
            have dsp : ((n1 : Int) == 0) = false := by simp; omega
            go_wp2_with (first | (refine wpList_store_blk rfl 28 _ _ rfl W.heap.size (dqList A B room (some ⟨ab, ao, none⟩) lc v0 v7 s) (dqList A B room (some ⟨g2, 15, none⟩) 2 row1 now s1) rfl rfl (HQ3.out.below (by exact (by repeat (first | exact Below.refl _ _ | refine below_drawnN ?_ _ | refine below_drawn ?_ | refine below_new ?_ _)))) (by kernel_rfl) rfl (dqList_one _ _ _ _ _ _ _ _) ?_; intro V4 hq4 hg4))
            have hq5 := (HQN.out.below (by exact (by repeat (first | exact Below.refl _ _ | refine below_drawnN ?_ _ | refine below_drawn ?_ | refine below_new ?_ _)))).small (HQ3.out.below (by exact (by repeat (first | exact Below.refl _ _ | refine below_drawnN ?_ _ | refine below_drawn ?_ | refine below_new ?_ _)))) (small_q rfl rfl rfl) hg4
            have hb5 := below_grown (below_on HB3.out (by exact (by repeat (first | exact Below.refl _ _ | refine below_drawnN ?_ _ | refine below_drawn ?_ | refine below_new ?_ _)))) hg4 (fun j hj => by injection hj with hj; omega)
            have hm5 := hq5.ok.m0
            clear hg4
            go_roundw
            case rel => exact ⟨k + 1, by omega, by go_num, 0, by first | rfl | go_num, g2, 15, 2, row1, now, s1, e3, xs1.length, f3, xs1, e4, _, f4, ys1, hq4, hq5, Int.le_refl _, hb5, by omega, by omega, Or.inr hm5⟩
            case measure => simp [intOf]; omega
        | only k0 k2 hi ha hk' =>
          as_aux_lemma =>
            subst hi k2
            have HA := Lib.hid ha
            clear ha
            go_wp2
            go_quiet (fail)
            go_wp2_with (first | (refine wpList_load_mid rfl 28 _ rfl W.heap.size 0 rfl (dqList A B room (some ⟨ab, ao, none⟩) lc v0 v7 s) _ (HQ.out.below (by exact (by repeat (first | exact Below.refl _ _ | refine below_drawnN ?_ _ | refine below_drawn ?_ | refine below_new ?_ _)))).range Tryd.underlying28 rfl (by kernel_rfl) ?_))
            refine (take_r (HI.out.below (by exact (by repeat (first | exact Below.refl _ _ | refine below_drawnN ?_ _ | refine below_drawn ?_ | refine below_new ?_ _)))) lc s (table_below HT.out (by exact below_on HB.out (by repeat (first | exact Below.refl _ _ | refine below_drawnN ?_ _ | refine below_drawn ?_ | refine below_new ?_ _)))) now t0 t2 HO1.out p1 _ HP1'.out HI1.out).mono ?_
            unfold TakeR
            rw [HM1.out, HK1.out]
            rintro e V2 ⟨g2, e3, f3, e4, f4, da2, dc2, rfl, hb, hqn, -, -, -⟩
            have hbw : Below wr.heap.size wr V2 := below_on (by exact (by repeat (first | exact Below.refl _ _ | refine below_drawnN ?_ _ | refine below_drawn ?_ | refine below_new ?_ _))) hb
            have HB3 := Lib.hid (below_on HB.out hbw)
            have HQ3 := Lib.hid (HQ.out.below hbw)
            have HQN := Lib.hid hqn
            have hltq := HQ3.out.lt
            have n16 := hqn.h2
            have ltg := World.block_lt_of_cell? _ _ n16
            simp only at ltg
            clear hb hbw hqn q5 c1' c2' zq zc
            have ha := HA.out
            have d1 : 0 < (n1 : Int) := by omega
            by_cases hsp : m1 = 0
            · have dsp : ((m1 : Int) == 0) = true := by simp; omega
              go_wp2_with (first | (refine wpList_store_blk rfl 28 _ _ rfl W.heap.size (dqList A B room (some ⟨ab, ao, none⟩) lc v0 v7 s) (dqList A B room (some ⟨g2, 15, none⟩) 2 row1 now s1) rfl rfl (HQ3.out.below (by exact (by repeat (first | exact Below.refl _ _ | refine below_drawnN ?_ _ | refine below_drawn ?_ | refine below_new ?_ _)))) (by kernel_rfl) rfl (dqList_one _ _ _ _ _ _ _ _) ?_; intro V4 hq4 hg4))
              have hq5 := (HQN.out.below (by exact (by repeat (first | exact Below.refl _ _ | refine below_drawnN ?_ _ | refine below_drawn ?_ | refine below_new ?_ _)))).small (HQ3.out.below (by exact (by repeat (first | exact Below.refl _ _ | refine below_drawnN ?_ _ | refine below_drawn ?_ | refine below_new ?_ _)))) (small_q rfl rfl rfl) hg4
              have hb5 := below_grown (below_on HB3.out (by exact (by repeat (first | exact Below.refl _ _ | refine below_drawnN ?_ _ | refine below_drawn ?_ | refine below_new ?_ _)))) hg4 (fun j hj => by injection hj with hj; omega)
              have hm5 := hq5.ok.m0
              clear hg4
              go_roundw
              case rel => exact ⟨k + 1, by omega, by go_num, 0, by first | rfl | go_num, g2, 15, 2, row1, now, s1, e3, xs1.length, f3, xs1, e4, _, f4, ys1, hq4, hq5, Int.le_refl _, hb5, by omega, by omega, Or.inl hk'⟩
              case measure => simp [intOf]; omega
            have dsp : ((m1 : Int) == 0) = false := by simp; omega
            go_wp2_with (first | (refine wpList_store_blk rfl 28 _ _ rfl W.heap.size (dqList A B room (some ⟨ab, ao, none⟩) lc v0 v7 s) (dqList A B room (some ⟨g2, 15, none⟩) 2 row1 now s1) rfl rfl (HQ3.out.below (by exact (by repeat (first | exact Below.refl _ _ | refine below_drawnN ?_ _ | refine below_drawn ?_ | refine below_new ?_ _)))) (by kernel_rfl) rfl (dqList_one _ _ _ _ _ _ _ _) ?_; intro V4 hq4 hg4))
            have hq5 := (HQN.out.below (by exact (by repeat (first | exact Below.refl _ _ | refine below_drawnN ?_ _ | refine below_drawn ?_ | refine below_new ?_ _)))).small (HQ3.out.below (by exact (by repeat (first | exact Below.refl _ _ | refine below_drawnN ?_ _ | refine below_drawn ?_ | refine below_new ?_ _)))) (small_q rfl rfl rfl) hg4
            have hb5 := below_grown (below_on HB3.out (by exact (by repeat (first | exact Below.refl _ _ | refine below_drawnN ?_ _ | refine below_drawn ?_ | refine below_new ?_ _)))) hg4 (fun j hj => by injection hj with hj; omega)
            have hm5 := hq5.ok.m0
            clear hg4
            go_roundw
            case rel => exact ⟨k + 1, by omega, by go_num, 0, by first | rfl | go_num, g2, 15, 2, row1, now, s1, e3, xs1.length, f3, xs1, e4, _, f4, ys1, hq4, hq5, Int.le_refl _, hb5, by omega, by omega, Or.inl hk'⟩
            case measure => simp [intOf]; omega
        | empty k0 k2 hi hk' =>
          as_aux_lemma =>
            subst hi k2 k0
            go_wp2
            go_quiet (fail)
            go_wp2_with (first | (refine wpList_load_mid rfl 28 _ rfl W.heap.size 0 rfl (dqList A B room (some ⟨ab, ao, none⟩) lc v0 v7 s) _ (HQ.out.below (by exact (by repeat (first | exact Below.refl _ _ | refine below_drawnN ?_ _ | refine below_drawn ?_ | refine below_new ?_ _)))).range Tryd.underlying28 rfl (by kernel_rfl) ?_))
            refine (take_r (HI.out.below (by exact (by repeat (first | exact Below.refl _ _ | refine below_drawnN ?_ _ | refine below_drawn ?_ | refine below_new ?_ _)))) lc s (table_below HT.out (by exact below_on HB.out (by repeat (first | exact Below.refl _ _ | refine below_drawnN ?_ _ | refine below_drawn ?_ | refine below_new ?_ _)))) now t0 t2 HO1.out p1 _ HP1'.out HI1.out).mono ?_
            unfold TakeR
            rw [HM1.out, HK1.out]
            rintro e V2 ⟨g2, e3, f3, e4, f4, da2, dc2, rfl, hb, hqn, -, -, -⟩
            have hbw : Below wr.heap.size wr V2 := below_on (by exact (by repeat (first | exact Below.refl _ _ | refine below_drawnN ?_ _ | refine below_drawn ?_ | refine below_new ?_ _))) hb
            have HB3 := Lib.hid (below_on HB.out hbw)
            have HQ3 := Lib.hid (HQ.out.below hbw)
            have HQN := Lib.hid hqn
            have hltq := HQ3.out.lt
            have n16 := hqn.h2
            have ltg := World.block_lt_of_cell? _ _ n16
            simp only at ltg
            clear hb hbw hqn q5 c1' c2' zq zc
            go_wp2_with (first | (refine wpList_store_blk rfl 28 _ _ rfl W.heap.size (dqList A B room (some ⟨ab, ao, none⟩) lc v0 v7 s) (dqList A B room (some ⟨g2, 15, none⟩) 2 row1 now s1) rfl rfl (HQ3.out.below (by exact (by repeat (first | exact Below.refl _ _ | refine below_drawnN ?_ _ | refine below_drawn ?_ | refine below_new ?_ _)))) (by kernel_rfl) rfl (dqList_one _ _ _ _ _ _ _ _) ?_; intro V4 hq4 hg4))
            have hq5 := (HQN.out.below (by exact (by repeat (first | exact Below.refl _ _ | refine below_drawnN ?_ _ | refine below_drawn ?_ | refine below_new ?_ _)))).small (HQ3.out.below (by exact (by repeat (first | exact Below.refl _ _ | refine below_drawnN ?_ _ | refine below_drawn ?_ | refine below_new ?_ _)))) (small_q rfl rfl rfl) hg4
            have hb5 := below_grown (below_on HB3.out (by exact (by repeat (first | exact Below.refl _ _ | refine below_drawnN ?_ _ | refine below_drawn ?_ | refine below_new ?_ _)))) hg4 (fun j hj => by injection hj with hj; omega)
            have hm5 := hq5.ok.m0
            clear hg4
            go_roundw
            case rel => exact ⟨k + 1, by omega, by go_num, 0, by first | rfl | go_num, g2, 15, 2, row1, now, s1, e3, xs1.length, f3, xs1, e4, _, f4, ys1, hq4, hq5, Int.le_refl _, hb5, by omega, by omega, Or.inl hk'⟩
            case measure => simp [intOf]; omega
      · obtain rfl : k = M := by omega
        obtain ⟨ab, ao, lc, v0, v7, s, a1, n1, c1, xs, a2, n2, c2, ys, hq, hi, t0, hB, -⟩ := HS.out
        have HBE := Lib.hid hB
        clear hq hi hB HS
        go_wp2
        go_ret
        exact ⟨rfl, HBE.out⟩
end Go.Proofs.YtdecclklenaoaaaDoor
