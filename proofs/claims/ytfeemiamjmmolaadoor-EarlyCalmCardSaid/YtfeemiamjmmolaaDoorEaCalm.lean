/- The statement EarlyCalm: it returns true, whatever the input, and leaves what was in memory alone. -/
import Derived.Test.YtfeemiamjmmolaaDoorEaHead
import Derived.Test.YtfeemiamjmmolaaDoorEaPar
namespace Go.Proofs.YtfeemiamjmmolaaDoor
open Go.RowKit

set_option maxRecDepth 100000 in
set_option maxHeartbeats 8000000 in
theorem calm_entry (kind A B C room : Int) (la : Option Addr) (ln lc : Nat) (v0 v1 v2 v3 v4 v5 v6 v7 : Int) (s : Nat) (p : Ea.Pkt) (now : Int) (W : World) (hL : RdLs W la ln) (hln : (ln : Int) ≤ 9223372036854775807) (ht : Table W) :
    Calls Tryd.prog 4 #[.agg #[.int .i64 kind, .int .i64 A, .int .i64 B, .int .i64 C, .int .i64 room, .slice la ln lc, .int .i64 v0, .int .i64 v1, .int .i64 v2, .int .i64 v3, .int .i64 v4, .int .i64 v5, .int .i64 v6, .int .i64 v7, .int .u64 (s : Int)], pktVal p, .int .i64 now] W fun e V => e = .returned (.bool true) ∧ Below W.heap.size W V := by
  have HL := Lib.hid hL
  have HT := Lib.hid ht
  clear hL ht
  go_enter Tryd.func4, Tryd.ntmps4
  go_wp2_with fail
  refine (head_ok _ (table_below HT.out (by exact below_new (below_new (Below.refl _ _) _) _))).mono ?_
  rintro e w1 ⟨rfl, hb1⟩
  have HB1 := Lib.hid (below_on (below_new (below_new (Below.refl W.heap.size W) _) _) hb1)
  have HQ1 : RowKit.Hid (Blk w1 W.heap.size [.int .i64 kind, .int .i64 A, .int .i64 B, .int .i64 C, .int .i64 room, .slice la ln lc, .int .i64 v0, .int .i64 v1, .int .i64 v2, .int .i64 v3, .int .i64 v4, .int .i64 v5, .int .i64 v6, .int .i64 v7, .int .u64 (s : Int)]) := Lib.hid (((Blk.new W #[.int .i64 kind, .int .i64 A, .int .i64 B, .int .i64 C, .int .i64 room, .slice la ln lc, .int .i64 v0, .int .i64 v1, .int .i64 v2, .int .i64 v3, .int .i64 v4, .int .i64 v5, .int .i64 v6, .int .i64 v7, .int .u64 (s : Int)] 28).below (below_new (Below.refl _ _) _)).below hb1)
  have HP1 : RowKit.Hid (Blk w1 (W.heap.size + 1) (pktList p)) := Lib.hid ((blk_new_at (W.alloc _) (pktList p).toArray 35 (by simp)).below hb1)
  clear hb1
  go_wp2_with (refine wpList_load_mid rfl 28 _ rfl W.heap.size 0 rfl [.int .i64 kind, .int .i64 A, .int .i64 B, .int .i64 C, .int .i64 room, .slice la ln lc, .int .i64 v0, .int .i64 v1, .int .i64 v2, .int .i64 v3, .int .i64 v4, .int .i64 v5, .int .i64 v6, .int .i64 v7, .int .u64 (s : Int)] _ HQ1.out.range Tryd.underlying28 rfl (by kernel_rfl) ?_)
  refine (usable_any kind A B C room la ln lc v0 v1 v2 v3 v4 v5 v6 v7 s w1 (HL.out.below HB1.out) hln).mono ?_
  rintro e w2 ⟨⟨b, rfl, hus⟩, hb2⟩
  have HUS := Lib.hid hus
  have HBE := Lib.hid (below_on HB1.out hb2)
  have hp2 := HP1.out.below hb2
  have hq2 := HQ1.out.below hb2
  have HB12 := Lib.hid hb2
  have p0 := hp2.cell 0 rfl
  have p1 := hp2.cell 1 rfl
  have p2 := hp2.cell 2 rfl
  have p3 := hp2.cell 3 rfl
  have p4 := hp2.cell 4 rfl
  have p5 := hp2.cell 5 rfl
  have p6 := hp2.cell 6 rfl
  have p7 := hp2.cell 7 rfl
  have q0 := hq2.cell 0 rfl
  have q1 := hq2.cell 1 rfl
  have q2 := hq2.cell 2 rfl
  have q3 := hq2.cell 3 rfl
  have q4 := hq2.cell 4 rfl
  have q5 := hq2.cell 5 rfl
  have q6 := hq2.cell 6 rfl
  have q7 := hq2.cell 7 rfl
  have q8 := hq2.cell 8 rfl
  have q9 := hq2.cell 9 rfl
  have q10 := hq2.cell 10 rfl
  have q11 := hq2.cell 11 rfl
  have q12 := hq2.cell 12 rfl
  have q13 := hq2.cell 13 rfl
  have q14 := hq2.cell 14 rfl
  have hz2 := hq2.lt
  have hy2 := hp2.lt
  have HQ2 := Lib.hid hq2
  have HP2 := Lib.hid hp2
  clear hus hb2 hp2 hq2 HQ1 HP1
  cases b with
  | false =>
    go_wp2
    go_quiet (fail)
    go_wp2
    go_ret
    exact ⟨rfl, by repeat (first | exact HBE.out | refine below_drawnN ?_ _ | refine below_drawn ?_ | refine below_new ?_ _)⟩
  | true =>
    obtain ⟨rfl, rfl, rfl, rfl, rfl, rfl, rfl, rfl, ad, a, n, c, xs, rfl, hc, hr, hn, hq⟩ := HUS.out rfl
    have hlen := hr.1
    subst hlen
    have HH := Lib.hid (show HoldsL w2 ad xs from HoldsL.below ⟨a, c, hc, hr⟩ HB12.out)
    have HQO := Lib.hid hq
    have had := below_cell_of HB12.out hc
    have hzad := World.block_lt_of_cell? _ _ had
    clear hc hr hq HUS HB12
    have HT2 := Lib.hid (table_below HT.out HBE.out)
    cases hok : decide p.ok with
    | false =>
      have HOK := Lib.hid hok
      clear hok
      go_wp2_with fail
      refine (packet_any p _).mono ?_
      rw [HOK.out]
      rintro e w3 ⟨rfl, hb3⟩
      have HBE' := HBE
      clear HBE
      have HBE := Lib.hid (below_on HBE'.out hb3)
      have hb3' := hb3
      have hp3 := HP2.out.below hb3
      have hq3 := HQ2.out.below hb3
      have had3 := below_cell_of hb3 had
      have hzad3 := World.block_lt_of_cell? _ _ had3
      clear p0 p1 p2 p3 p4 p5 p6 p7 q0 q1 q2 q3 q4 q5 q6 q7 q8 q9 q10 q11 q12 q13 q14 had hzad hb3
      have r0 := hp3.cell 0 rfl
      have r1 := hp3.cell 1 rfl
      have r2 := hp3.cell 2 rfl
      have r3 := hp3.cell 3 rfl
      have r4 := hp3.cell 4 rfl
      have r5 := hp3.cell 5 rfl
      have r6 := hp3.cell 6 rfl
      have r7 := hp3.cell 7 rfl
      have k0 := hq3.cell 0 rfl
      have k1 := hq3.cell 1 rfl
      have k2 := hq3.cell 2 rfl
      have k3 := hq3.cell 3 rfl
      have k4 := hq3.cell 4 rfl
      have k5 := hq3.cell 5 rfl
      have k6 := hq3.cell 6 rfl
      have k7 := hq3.cell 7 rfl
      have k8 := hq3.cell 8 rfl
      have k9 := hq3.cell 9 rfl
      have k10 := hq3.cell 10 rfl
      have k11 := hq3.cell 11 rfl
      have k12 := hq3.cell 12 rfl
      have k13 := hq3.cell 13 rfl
      have k14 := hq3.cell 14 rfl
      have hz3 := hq3.lt
      have hy3 := hp3.lt
      have HQ3 := Lib.hid hq3
      have HP3 := Lib.hid hp3
      clear hp3 hq3 HQ2 HP2 hz2 hy2
      go_wp2
      go_quiet (fail)
      go_wp2
      go_ret
      exact ⟨rfl, by repeat (first | exact HBE.out | refine below_drawnN ?_ _ | refine below_drawn ?_ | refine below_new ?_ _)⟩
    | true =>
      have HOK := Lib.hid (of_decide_eq_true hok)
      have HOKD := Lib.hid hok
      clear hok
      cases htm : decide (0 ≤ now ∧ now ≤ 10000000) with
      | false =>
        have HTM := Lib.hid htm
        clear htm
        go_wp2_with fail
        refine (packet_any p _).mono ?_
        rw [HOKD.out]
        rintro e w3 ⟨rfl, hb3⟩
        have HBE' := HBE
        clear HBE
        have HBE := Lib.hid (below_on HBE'.out hb3)
        have hb3' := hb3
        have hp3 := HP2.out.below hb3
        have hq3 := HQ2.out.below hb3
        have had3 := below_cell_of hb3 had
        have hzad3 := World.block_lt_of_cell? _ _ had3
        clear p0 p1 p2 p3 p4 p5 p6 p7 q0 q1 q2 q3 q4 q5 q6 q7 q8 q9 q10 q11 q12 q13 q14 had hzad hb3
        have r0 := hp3.cell 0 rfl
        have r1 := hp3.cell 1 rfl
        have r2 := hp3.cell 2 rfl
        have r3 := hp3.cell 3 rfl
        have r4 := hp3.cell 4 rfl
        have r5 := hp3.cell 5 rfl
        have r6 := hp3.cell 6 rfl
        have r7 := hp3.cell 7 rfl
        have k0 := hq3.cell 0 rfl
        have k1 := hq3.cell 1 rfl
        have k2 := hq3.cell 2 rfl
        have k3 := hq3.cell 3 rfl
        have k4 := hq3.cell 4 rfl
        have k5 := hq3.cell 5 rfl
        have k6 := hq3.cell 6 rfl
        have k7 := hq3.cell 7 rfl
        have k8 := hq3.cell 8 rfl
        have k9 := hq3.cell 9 rfl
        have k10 := hq3.cell 10 rfl
        have k11 := hq3.cell 11 rfl
        have k12 := hq3.cell 12 rfl
        have k13 := hq3.cell 13 rfl
        have k14 := hq3.cell 14 rfl
        have hz3 := hq3.lt
        have hy3 := hp3.lt
        have HQ3 := Lib.hid hq3
        have HP3 := Lib.hid hp3
        clear hp3 hq3 HQ2 HP2 hz2 hy2
        go_wp2_with fail
        refine (time_any now _).mono ?_
        rw [HTM.out]
        rintro e w4 ⟨rfl, rfl⟩
        go_wp2
        go_quiet (fail)
        go_wp2
        go_ret
        exact ⟨rfl, by repeat (first | exact HBE.out | refine below_drawnN ?_ _ | refine below_drawn ?_ | refine below_new ?_ _)⟩
      | true =>
        have htm' := of_decide_eq_true htm
        obtain ⟨n0, n1⟩ := htm'
        have HTM := Lib.hid htm
        clear htm
        go_wp2_with fail
        refine (packet_any p _).mono ?_
        rw [HOKD.out]
        rintro e w3 ⟨rfl, hb3⟩
        have HBE' := HBE
        clear HBE
        have HBE := Lib.hid (below_on HBE'.out hb3)
        have hb3' := hb3
        have hp3 := HP2.out.below hb3
        have hq3 := HQ2.out.below hb3
        have had3 := below_cell_of hb3 had
        have hzad3 := World.block_lt_of_cell? _ _ had3
        clear p0 p1 p2 p3 p4 p5 p6 p7 q0 q1 q2 q3 q4 q5 q6 q7 q8 q9 q10 q11 q12 q13 q14 had hzad hb3
        have r0 := hp3.cell 0 rfl
        have r1 := hp3.cell 1 rfl
        have r2 := hp3.cell 2 rfl
        have r3 := hp3.cell 3 rfl
        have r4 := hp3.cell 4 rfl
        have r5 := hp3.cell 5 rfl
        have r6 := hp3.cell 6 rfl
        have r7 := hp3.cell 7 rfl
        have k0 := hq3.cell 0 rfl
        have k1 := hq3.cell 1 rfl
        have k2 := hq3.cell 2 rfl
        have k3 := hq3.cell 3 rfl
        have k4 := hq3.cell 4 rfl
        have k5 := hq3.cell 5 rfl
        have k6 := hq3.cell 6 rfl
        have k7 := hq3.cell 7 rfl
        have k8 := hq3.cell 8 rfl
        have k9 := hq3.cell 9 rfl
        have k10 := hq3.cell 10 rfl
        have k11 := hq3.cell 11 rfl
        have k12 := hq3.cell 12 rfl
        have k13 := hq3.cell 13 rfl
        have k14 := hq3.cell 14 rfl
        have hz3 := hq3.lt
        have hy3 := hp3.lt
        have HQ3 := Lib.hid hq3
        have HP3 := Lib.hid hp3
        clear hp3 hq3 HQ2 HP2 hz2 hy2
        have HT3 := Lib.hid (table_below HT2.out hb3')
        have HH3 := Lib.hid (HH.out.below hb3')
        clear HT2 HH
        go_wp2_with fail
        refine (time_any now _).mono ?_
        rw [HTM.out]
        rintro e w4 ⟨rfl, rfl⟩
        by_cases c1 : now < v7
        · have d1 : decide (now < v7) = true := decide_eq_true c1
          go_wp2
          go_quiet (fail)
          go_wp2
          go_ret
          exact ⟨rfl, by repeat (first | exact HBE.out | refine below_drawnN ?_ _ | refine below_drawn ?_ | refine below_new ?_ _)⟩
        have d1 : decide (now < v7) = false := decide_eq_false c1
        by_cases c2 : A ≤ (xs.length : Int)
        · have d2 : decide (A ≤ (xs.length : Int)) = true := decide_eq_true c2
          go_wp2
          go_quiet (fail)
          go_wp2
          go_ret
          exact ⟨rfl, by repeat (first | exact HBE.out | refine below_drawnN ?_ _ | refine below_drawn ?_ | refine below_new ?_ _)⟩
        have d2 : decide (A ≤ (xs.length : Int)) = false := decide_eq_false c2
        have ha1 := HQO.out.a0
        have ha2 := HQO.out.ab
        have ha3 := HQO.out.b1
        by_cases c3 : 1024 * A ≤ v0
        · have d3 : decide (1024 * A ≤ v0) = true := decide_eq_true c3
          go_wp2
          go_quiet (fail)
          go_wp2
          go_ret
          exact ⟨rfl, by repeat (first | exact HBE.out | refine below_drawnN ?_ _ | refine below_drawn ?_ | refine below_new ?_ _)⟩
        have d3 : decide (1024 * A ≤ v0) = false := decide_eq_false c3
        go_wp2
        go_quiet (fail)
        obtain ⟨z, hz⟩ : ∃ z, Ea.avg v0 xs.length (2 ^ C.toNat) = z := ⟨_, rfl⟩
        have hzb := Ea.avg_bd (v := v0) (len := xs.length) (pow_one_le C.toNat)
        rw [hz] at hzb
        have hza : z < 1024 * A := by omega
        have HZ := Lib.hid hz
        clear hz hzb
        by_cases hf : (xs.length : Int) = room
        · have hfb : ((xs.length : Int) == room) = true := by simp [hf]
          have hv : Ea.verdict A B xs.length room z s = (2, s) := by unfold Ea.verdict; rw [if_pos hf]
          have HV := Lib.hid hv
          have HF := Lib.hid hf
          clear hv hf
          have hput : ∀ V, HoldsL V ad xs → Table V → Calls Tryd.prog 13 #[.agg #[.int .i64 2, .int .i64 A, .int .i64 B, .int .i64 C, .int .i64 room, .slice (some ad) 1 lc, .int .i64 v0, .int .i64 0, .int .i64 0, .int .i64 0, .int .i64 0, .int .i64 0, .int .i64 0, .int .i64 v7, .int .u64 (s : Int)], pktVal p, .int .i64 now] V (PutGives V A B C room z now s (Ea.stays xs p now 2) (Ea.drops p 2)) := fun V h1 h2 => by
            have := put_any A B C room ad lc v0 v7 s xs V h1 HQO.out h2 p HOK.out now (by omega) n1 2 s (by rw [HZ.out]; exact HV.out)
            rw [HZ.out] at this
            exact this
          have hfate : ∀ V, HoldsL V ad xs → Table V → Calls Tryd.prog 12 #[.agg #[.int .i64 2, .int .i64 A, .int .i64 B, .int .i64 C, .int .i64 room, .slice (some ad) 1 lc, .int .i64 v0, .int .i64 0, .int .i64 0, .int .i64 0, .int .i64 0, .int .i64 0, .int .i64 0, .int .i64 v7, .int .u64 (s : Int)], pktVal p, .int .i64 now] V fun e V' => e = .returned (.int .i64 2) ∧ Below V.heap.size V V' := fun V h1 h2 => by
            have := fate_any A B C room ad lc v0 v7 s xs V h1 HQO.out h2 p HOK.out now (by omega) n1 2 s (by rw [HZ.out]; exact HV.out)
            exact this
          have HPUT := Lib.hid hput
          have HFATE := Lib.hid hfate
          clear hput hfate
          go_wp2_with fail
          refine (HPUT.out _ (by exact HH3.out) (by exact HT3.out)).mono ?_
          rintro e w5 ⟨ad5, out, rfl, hb5, hl5, ho5⟩
          have HB5 := Lib.hid (below_on (below_drawnN HBE.out _) hb5)
          have HQ5 := Lib.hid ((show Blk (World.drewN w4 nq) W.heap.size [.int .i64 2, .int .i64 A, .int .i64 B, .int .i64 C, .int .i64 room, .slice (some ad) 1 lc, .int .i64 v0, .int .i64 0, .int .i64 0, .int .i64 0, .int .i64 0, .int .i64 0, .int .i64 0, .int .i64 v7, .int .u64 (s : Int)] from HQ3.out).below hb5)
          have HP5 := Lib.hid ((show Blk (World.drewN w4 nq) (W.heap.size + 1) (pktList p) from HP3.out).below hb5)
          have HH5 := Lib.hid ((show HoldsL (World.drewN w4 nq) ad xs from HH3.out).below hb5)
          have HT5 := Lib.hid (table_below (show Table (World.drewN w4 nq) from HT3.out) hb5)
          have HL5 := Lib.hid hl5
          have HO5 := Lib.hid ho5
          have had5 : w5.cell? ad = some (.slice a xs.length c) := below_cell_of hb5 (by exact had3)
          have hzad5 := World.block_lt_of_cell? _ _ had5
          clear hb5 hl5 ho5 had3 hzad3 hz3 hy3 HQ3 HP3 HH3 HT3 HBE HPUT r0 r1 r2 r3 r4 r5 r6 r7 k0 k1 k2 k3 k4 k5 k6 k7 k8 k9 k10 k11 k12 k13 k14
          have hzq5 := HQ5.out.lt
          have hzp5 := HP5.out.lt
          go_wp2_with (first | (refine wpList_load_mid rfl 28 _ rfl W.heap.size 0 rfl [.int .i64 2, .int .i64 A, .int .i64 B, .int .i64 C, .int .i64 room, .slice (some ad) 1 lc, .int .i64 v0, .int .i64 0, .int .i64 0, .int .i64 0, .int .i64 0, .int .i64 0, .int .i64 0, .int .i64 v7, .int .u64 (s : Int)] _ (HQ5.out.below (by exact below_new (Below.refl _ _) _)).range Tryd.underlying28 rfl (by kernel_rfl) ?_) | (refine wpList_load_mid rfl 35 _ rfl (W.heap.size + 1) 0 rfl (pktList p) _ (HP5.out.below (by exact below_new (Below.refl _ _) _)).range Tryd.underlying35 rfl (by kernel_rfl) ?_) | (refine wpList_store_new rfl 28 _ _ rfl _ #[.int .i64 2, .int .i64 A, .int .i64 B, .int .i64 C, .int .i64 room, .slice (some ad5) 1 1, .int .i64 z, .int .i64 0, .int .i64 0, .int .i64 0, .int .i64 0, .int .i64 0, .int .i64 0, .int .i64 now, .int .u64 (s : Int)] rfl rfl (by kernel_rfl) rfl rfl ?_))
          refine (HFATE.out _ (HH5.out.below (by exact below_new (Below.refl _ _) _)) (table_below HT5.out (by exact below_new (Below.refl _ _) _))).mono ?_
          rintro e w6 ⟨rfl, hb6⟩
          have HB6 := Lib.hid (below_on (below_new HB5.out _) hb6)
          have hq6 := (HQ5.out.below (by exact below_new (Below.refl _ _) _)).below hb6
          have hp6 := (HP5.out.below (by exact below_new (Below.refl _ _) _)).below hb6
          have hn6 := (Blk.new w5 #[.int .i64 2, .int .i64 A, .int .i64 B, .int .i64 C, .int .i64 room, .slice (some ad5) 1 1, .int .i64 z, .int .i64 0, .int .i64 0, .int .i64 0, .int .i64 0, .int .i64 0, .int .i64 0, .int .i64 now, .int .u64 (s : Int)] 28).below hb6
          have had6 := below_cell_of hb6 (below_cell_of (by exact below_new (Below.refl _ _) _) had5)
          have q1 := hq6.cell 1 rfl
          have q4 := hq6.cell 4 rfl
          have q5 := hq6.cell 5 rfl
          have q14 := hq6.cell 14 rfl
          have p7 := hp6.cell 7 rfl
          have m6 := hn6.cell 6 rfl
          have m14 := hn6.cell 14 rfl
          clear hb6 had5 hzad5 hzq5 hzp5 HQ5 HP5 HH5 HT5 HL5 HO5 HFATE hq6 hp6 hn6
          go_wp2
          go_quiet (fail)
          go_wp2
          go_ret
          exact ⟨ret_bool (by simp), by repeat (first | exact HB6.out | refine below_drawnN ?_ _ | refine below_drawn ?_ | refine below_new ?_ _)⟩
        have hfb : ((xs.length : Int) == room) = false := by simp [hf]
        have hv : Ea.verdict A B xs.length room z s = (0, s) := by unfold Ea.verdict; rw [if_neg hf, if_pos (by omega)]
        have HV := Lib.hid hv
        clear hv hf
        have hput : ∀ V, HoldsL V ad xs → Table V → Calls Tryd.prog 13 #[.agg #[.int .i64 2, .int .i64 A, .int .i64 B, .int .i64 C, .int .i64 room, .slice (some ad) 1 lc, .int .i64 v0, .int .i64 0, .int .i64 0, .int .i64 0, .int .i64 0, .int .i64 0, .int .i64 0, .int .i64 v7, .int .u64 (s : Int)], pktVal p, .int .i64 now] V (PutGives V A B C room z now s (Ea.stays xs p now 0) (Ea.drops p 0)) := fun V h1 h2 => by
          have := put_any A B C room ad lc v0 v7 s xs V h1 HQO.out h2 p HOK.out now (by omega) n1 0 s (by rw [HZ.out]; exact HV.out)
          rw [HZ.out] at this
          exact this
        have hfate : ∀ V, HoldsL V ad xs → Table V → Calls Tryd.prog 12 #[.agg #[.int .i64 2, .int .i64 A, .int .i64 B, .int .i64 C, .int .i64 room, .slice (some ad) 1 lc, .int .i64 v0, .int .i64 0, .int .i64 0, .int .i64 0, .int .i64 0, .int .i64 0, .int .i64 0, .int .i64 v7, .int .u64 (s : Int)], pktVal p, .int .i64 now] V fun e V' => e = .returned (.int .i64 0) ∧ Below V.heap.size V V' := fun V h1 h2 => by
          have := fate_any A B C room ad lc v0 v7 s xs V h1 HQO.out h2 p HOK.out now (by omega) n1 0 s (by rw [HZ.out]; exact HV.out)
          exact this
        have HPUT := Lib.hid hput
        have HFATE := Lib.hid hfate
        clear hput hfate
        go_wp2_with fail
        refine (HPUT.out _ (by exact HH3.out) (by exact HT3.out)).mono ?_
        rintro e w5 ⟨ad5, out, rfl, hb5, hl5, ho5⟩
        have HB5 := Lib.hid (below_on (below_drawnN HBE.out _) hb5)
        have HQ5 := Lib.hid ((show Blk (World.drewN w4 nq) W.heap.size [.int .i64 2, .int .i64 A, .int .i64 B, .int .i64 C, .int .i64 room, .slice (some ad) 1 lc, .int .i64 v0, .int .i64 0, .int .i64 0, .int .i64 0, .int .i64 0, .int .i64 0, .int .i64 0, .int .i64 v7, .int .u64 (s : Int)] from HQ3.out).below hb5)
        have HP5 := Lib.hid ((show Blk (World.drewN w4 nq) (W.heap.size + 1) (pktList p) from HP3.out).below hb5)
        have HH5 := Lib.hid ((show HoldsL (World.drewN w4 nq) ad xs from HH3.out).below hb5)
        have HT5 := Lib.hid (table_below (show Table (World.drewN w4 nq) from HT3.out) hb5)
        have HL5 := Lib.hid hl5
        have HO5 := Lib.hid ho5
        have had5 : w5.cell? ad = some (.slice a xs.length c) := below_cell_of hb5 (by exact had3)
        have hzad5 := World.block_lt_of_cell? _ _ had5
        clear hb5 hl5 ho5 had3 hzad3 hz3 hy3 HQ3 HP3 HH3 HT3 HBE HPUT r0 r1 r2 r3 r4 r5 r6 r7 k0 k1 k2 k3 k4 k5 k6 k7 k8 k9 k10 k11 k12 k13 k14
        have hzq5 := HQ5.out.lt
        have hzp5 := HP5.out.lt
        go_wp2_with (first | (refine wpList_load_mid rfl 28 _ rfl W.heap.size 0 rfl [.int .i64 2, .int .i64 A, .int .i64 B, .int .i64 C, .int .i64 room, .slice (some ad) 1 lc, .int .i64 v0, .int .i64 0, .int .i64 0, .int .i64 0, .int .i64 0, .int .i64 0, .int .i64 0, .int .i64 v7, .int .u64 (s : Int)] _ (HQ5.out.below (by exact below_new (Below.refl _ _) _)).range Tryd.underlying28 rfl (by kernel_rfl) ?_) | (refine wpList_load_mid rfl 35 _ rfl (W.heap.size + 1) 0 rfl (pktList p) _ (HP5.out.below (by exact below_new (Below.refl _ _) _)).range Tryd.underlying35 rfl (by kernel_rfl) ?_) | (refine wpList_store_new rfl 28 _ _ rfl _ #[.int .i64 2, .int .i64 A, .int .i64 B, .int .i64 C, .int .i64 room, .slice (some ad5) 1 1, .int .i64 z, .int .i64 0, .int .i64 0, .int .i64 0, .int .i64 0, .int .i64 0, .int .i64 0, .int .i64 now, .int .u64 (s : Int)] rfl rfl (by kernel_rfl) rfl rfl ?_))
        refine (HFATE.out _ (HH5.out.below (by exact below_new (Below.refl _ _) _)) (table_below HT5.out (by exact below_new (Below.refl _ _) _))).mono ?_
        rintro e w6 ⟨rfl, hb6⟩
        have HB6 := Lib.hid (below_on (below_new HB5.out _) hb6)
        have hq6 := (HQ5.out.below (by exact below_new (Below.refl _ _) _)).below hb6
        have hp6 := (HP5.out.below (by exact below_new (Below.refl _ _) _)).below hb6
        have hn6 := (Blk.new w5 #[.int .i64 2, .int .i64 A, .int .i64 B, .int .i64 C, .int .i64 room, .slice (some ad5) 1 1, .int .i64 z, .int .i64 0, .int .i64 0, .int .i64 0, .int .i64 0, .int .i64 0, .int .i64 0, .int .i64 now, .int .u64 (s : Int)] 28).below hb6
        have had6 := below_cell_of hb6 (below_cell_of (by exact below_new (Below.refl _ _) _) had5)
        have q1 := hq6.cell 1 rfl
        have q4 := hq6.cell 4 rfl
        have q5 := hq6.cell 5 rfl
        have q14 := hq6.cell 14 rfl
        have p7 := hp6.cell 7 rfl
        have m6 := hn6.cell 6 rfl
        have m14 := hn6.cell 14 rfl
        clear hb6 had5 hzad5 hzq5 hzp5 HQ5 HP5 HH5 HT5 HL5 HO5 HFATE hq6 hp6 hn6
        go_wp2
        go_quiet (fail)
        go_wp2
        go_ret
        exact ⟨ret_bool (by simp), by repeat (first | exact HB6.out | refine below_drawnN ?_ _ | refine below_drawn ?_ | refine below_new ?_ _)⟩
end Go.Proofs.YtfeemiamjmmolaaDoor
