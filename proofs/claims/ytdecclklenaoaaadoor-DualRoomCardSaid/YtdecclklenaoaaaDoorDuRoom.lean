/- The statement DualRoom: it returns true, whatever the input, and leaves what was in memory alone. -/
import Derived.Test.YtdecclklenaoaaaDoorDuHeadB
import Derived.Test.YtdecclklenaoaaaDoorDuSame
import Derived.Test.YtdecclklenaoaaaDoorDuLate
import Derived.Test.YtdecclklenaoaaaDoorDuBuild
import Derived.Test.YtdecclklenaoaaaDoorEaPar
namespace Go.Proofs.YtdecclklenaoaaaDoor
open Go.RowKit

set_option maxRecDepth 100000 in
set_option maxHeartbeats 3000000 in
theorem room_entry (kind A B C room : Int) (la : Option Addr) (ln lc : Nat) (v0 v1 v2 v3 v4 v5 v6 v7 : Int) (s : Nat) (p : Ea.Pkt) (now : Int) (W : World) (hL : RdLs W la ln) (hln : (ln : Int) ≤ 9223372036854775807) (ht : Table W) :
    Calls Tryd.prog 9 #[.agg #[.int .i64 kind, .int .i64 A, .int .i64 B, .int .i64 C, .int .i64 room, .slice la ln lc, .int .i64 v0, .int .i64 v1, .int .i64 v2, .int .i64 v3, .int .i64 v4, .int .i64 v5, .int .i64 v6, .int .i64 v7, .int .u64 (s : Int)], pktVal p, .int .i64 now] W fun e V => e = .returned (.bool true) ∧ Below W.heap.size W V := by
  have HL := Lib.hid hL
  have HT := Lib.hid ht
  clear hL ht
  go_enter Tryd.func9, Tryd.ntmps9
  go_wp2_with fail
  refine (head_ok _ (table_below HT.out (by exact below_new (below_new (Below.refl _ _) _) _))).mono ?_
  rintro e w1 ⟨rfl, hb1⟩
  have HB1 := Lib.hid (below_on (w := W) (by exact below_new (below_new (Below.refl _ _) _) _) hb1)
  have HQ1 : RowKit.Hid (Blk w1 W.heap.size [.int .i64 kind, .int .i64 A, .int .i64 B, .int .i64 C, .int .i64 room, .slice la ln lc, .int .i64 v0, .int .i64 v1, .int .i64 v2, .int .i64 v3, .int .i64 v4, .int .i64 v5, .int .i64 v6, .int .i64 v7, .int .u64 (s : Int)]) := Lib.hid (((Blk.new W #[.int .i64 kind, .int .i64 A, .int .i64 B, .int .i64 C, .int .i64 room, .slice la ln lc, .int .i64 v0, .int .i64 v1, .int .i64 v2, .int .i64 v3, .int .i64 v4, .int .i64 v5, .int .i64 v6, .int .i64 v7, .int .u64 (s : Int)] 28).below (below_new (Below.refl _ _) _)).below hb1)
  have HP1 : RowKit.Hid (Blk w1 (W.heap.size + 1) (pktList p)) := Lib.hid ((blk_new_at (W.alloc _) (pktList p).toArray 30 (by simp)).below hb1)
  clear hb1
  go_wp2_with (refine wpList_load_mid rfl 28 _ rfl W.heap.size 0 rfl [.int .i64 kind, .int .i64 A, .int .i64 B, .int .i64 C, .int .i64 room, .slice la ln lc, .int .i64 v0, .int .i64 v1, .int .i64 v2, .int .i64 v3, .int .i64 v4, .int .i64 v5, .int .i64 v6, .int .i64 v7, .int .u64 (s : Int)] _ HQ1.out.range Tryd.underlying28 rfl (by kernel_rfl) ?_)
  refine (few_any kind A B C room la ln lc v0 v1 v2 v3 v4 v5 v6 v7 s w1 (HL.out.below HB1.out) hln).mono ?_
  rintro e w2 ⟨⟨b1, rfl, hs1⟩, hb2⟩
  have HS1 := Lib.hid hs1
  have HB12 := Lib.hid hb2
  have HB2 := Lib.hid (below_on HB1.out hb2)
  have HQ2 := Lib.hid (HQ1.out.below hb2)
  have HP2 := Lib.hid (HP1.out.below hb2)
  clear hb2 hs1 HQ1 HP1
  cases b1 with
  | false =>
    go_wp2
    go_ret
    exact ⟨rfl, HB2.out⟩
  | true =>
    have hS : ∀ i ad a n c, i < ln → la = some ad → w2.cell? (ad.add i) = some (.slice a n c) → n ≤ 600 := fun i ad a n c hi e h => by
      obtain ⟨ad', a', n', c', xs', e', hc', _, _⟩ := HL.out i hi
      rw [e] at e'
      injection e' with e'
      subst e'
      have h3 := below_cell_of HB1.out hc'
      have h4 := (below_cell_of HB12.out h3).symm.trans h
      injection h4 with h4
      injection h4 with _ h5 _
      subst h5
      exact (HS1.out.1 rfl).2 i ad _ _ _ hi e h3
    have HSS := Lib.hid hS
    clear hS
    have k0 := HQ2.out.cell 0 rfl
    have k1 := HQ2.out.cell 1 rfl
    have k2 := HQ2.out.cell 2 rfl
    have k3 := HQ2.out.cell 3 rfl
    have k4 := HQ2.out.cell 4 rfl
    have k5 := HQ2.out.cell 5 rfl
    have k6 := HQ2.out.cell 6 rfl
    have k7 := HQ2.out.cell 7 rfl
    have k8 := HQ2.out.cell 8 rfl
    have k9 := HQ2.out.cell 9 rfl
    have k10 := HQ2.out.cell 10 rfl
    have k11 := HQ2.out.cell 11 rfl
    have k12 := HQ2.out.cell 12 rfl
    have k13 := HQ2.out.cell 13 rfl
    have k14 := HQ2.out.cell 14 rfl
    go_wp2_with fail
    refine (rvalid_any kind A B C room la ln lc v0 v1 v2 v3 v4 v5 v6 v7 s _ (HL.out.below HB2.out) HSS.out).mono ?_
    rintro e w3 ⟨⟨b2, rfl, hb2⟩, hbel⟩
    clear k0 k1 k2 k3 k4 k5 k6 k7 k8 k9 k10 k11 k12 k13 k14
    have HV2 := Lib.hid hb2
    have HB3 := Lib.hid (below_on HB2.out hbel)
    have HQ3 := Lib.hid (HQ2.out.below hbel)
    have HP3 := Lib.hid (HP2.out.below hbel)
    clear hb2 hbel HQ2 HP2
    cases b2 with
    | false =>
      go_wp2
      go_ret
      exact ⟨rfl, HB3.out⟩
    | true =>
      have kp0 := HP3.out.cell 0 rfl
      have kp1 := HP3.out.cell 1 rfl
      have kp2 := HP3.out.cell 2 rfl
      have kp3 := HP3.out.cell 3 rfl
      have kp4 := HP3.out.cell 4 rfl
      have kp5 := HP3.out.cell 5 rfl
      have kp6 := HP3.out.cell 6 rfl
      have kp7 := HP3.out.cell 7 rfl
      go_wp2_with fail
      refine (packet_any p _).mono ?_
      obtain ⟨bp, hbp⟩ : ∃ b, decide p.ok = b := ⟨_, rfl⟩
      rw [hbp]
      rintro e w4 ⟨rfl, hb4⟩
      have HBP := Lib.hid hbp
      have HB4 := Lib.hid (below_on HB3.out hb4)
      have HQ4 := Lib.hid (HQ3.out.below hb4)
      have HP4 := Lib.hid (HP3.out.below hb4)
      clear hbp hb4 HQ3 HP3 kp0 kp1 kp2 kp3 kp4 kp5 kp6 kp7
      cases bp with
      | false =>
        go_wp2
        go_ret
        exact ⟨rfl, HB4.out⟩
      | true =>
        obtain ⟨bt, hbt⟩ : ∃ b, decide (0 ≤ now ∧ now ≤ 10000000) = b := ⟨_, rfl⟩
        have HBT := Lib.hid hbt
        clear hbt
        go_wp2_with fail
        refine (time_any now _).mono ?_
        rw [HBT.out]
        rintro e w5 ⟨rfl, rfl⟩
        cases bt with
        | false =>
          go_wp2
          go_ret
          exact ⟨rfl, HB4.out⟩
        | true =>
          obtain ⟨rfl, rfl, rfl, rfl, rfl, rfl, rfl, rfl, rfl, ab, ao, a1, n1, c1, xs, a2, n2, c2, ys, rfl, hq⟩ := VOk2.back HL.out HB2.out (HV2.out.1 (by first | rfl | trivial))
          have HPK := Lib.hid (of_decide_eq_true HBP.out)
          obtain ⟨t1, t2⟩ := of_decide_eq_true HBT.out
          have HIN := Lib.hid (hq.below HB4.out)
          have HOK := Lib.hid hq.ok
          have HTB := Lib.hid (table_below HT.out HB4.out)
          have hl1 := hq.r1.1
          have hl2 := hq.r2.1
          have hsh := hq.ok.short
          have HQ4 : RowKit.Hid (Blk w5 W.heap.size (dqList A B room (some ⟨ab, ao, none⟩) lc v0 v7 s)) := HQ4
          clear hq HV2 HSS HS1 HB12 HB1 HB2 HB3 HL
          by_cases hlate : now < v7
          · have dl : decide (now < v7) = true := decide_eq_true hlate
            go_wp2_with (first | (refine wpList_load_mid rfl 28 _ rfl W.heap.size 0 rfl (dqList A B room (some ⟨ab, ao, none⟩) lc v0 v7 s) _ (HQ4.out.below (by exact (by repeat (first | exact Below.refl _ _ | refine below_drawnN ?_ _ | refine below_drawn ?_ | refine below_new ?_ _)))).range Tryd.underlying28 rfl (by kernel_rfl) ?_) | (refine wpList_load_mid rfl 30 _ rfl (W.heap.size + 1) 0 rfl (pktList p) _ (HP4.out.below (by exact (by repeat (first | exact Below.refl _ _ | refine below_drawnN ?_ _ | refine below_drawn ?_ | refine below_new ?_ _)))).range Tryd.underlying30 rfl (by kernel_rfl) ?_))
            refine (put_late HIN.out lc s p HPK.out now t1 hlate t2).mono ?_
            rintro e V1 ⟨rfl, hb⟩
            have HB5 := Lib.hid (below_on HB4.out hb)
            have hq5 := HQ4.out.below hb
            have HI5 := Lib.hid (HIN.out.below hb)
            have k13 := hq5.cell 13 rfl
            have zq := hq5.lt
            have HQ5 := Lib.hid hq5
            clear hb hq5
            go_wp2_with (first | (refine wpList_load_mid rfl 28 _ rfl W.heap.size 0 rfl (dqList A B room (some ⟨ab, ao, none⟩) lc v0 v7 s) _ (HQ5.out.below (by exact (by repeat (first | exact Below.refl _ _ | refine below_drawnN ?_ _ | refine below_drawn ?_ | refine below_new ?_ _)))).range Tryd.underlying28 rfl (by kernel_rfl) ?_))
            refine (take_late (HI5.out.below (by exact (by repeat (first | exact Below.refl _ _ | refine below_drawnN ?_ _ | refine below_drawn ?_ | refine below_new ?_ _)))) lc s now t1 hlate t2).mono ?_
            rintro e V2 ⟨rfl, hb⟩
            have HBE := Lib.hid (below_on (below_on HB5.out (by exact (by repeat (first | exact Below.refl _ _ | refine below_drawnN ?_ _ | refine below_drawn ?_ | refine below_new ?_ _)))) hb)
            go_wp2
            go_ret
            exact ⟨rfl, by repeat (first | exact HBE.out | refine below_drawnN ?_ _ | refine below_drawn ?_ | refine below_new ?_ _)⟩
          have dl : decide (now < v7) = false := decide_eq_false hlate
          have t0 : v7 ≤ now := by omega
          have hW : IntKind.i64.wrap ((n1 : Int) + (n2 : Int)) = (n1 : Int) + (n2 : Int) := by rw [IntKind.wrap_i64]; omega
          have hlen : (n1 : Int) + n2 ≤ room := by rw [← hl1, ← hl2]; exact HOK.out.len
          by_cases hf : room ≤ (n1 : Int) + n2
          · as_aux_lemma =>
            have dfu : ((n1 : Int) + (n2 : Int) == room) = true := by simp; omega
            have hpx : putX room xs ys p now = (xs, ys, [p]) := by unfold putX; rw [hl1, hl2, if_pos hf]
            go_wp2_with (first | (refine wpList_load_mid rfl 28 _ rfl W.heap.size 0 rfl (dqList A B room (some ⟨ab, ao, none⟩) lc v0 v7 s) _ (HQ4.out.below (by exact (by repeat (first | exact Below.refl _ _ | refine below_drawnN ?_ _ | refine below_drawn ?_ | refine below_new ?_ _)))).range Tryd.underlying28 rfl (by kernel_rfl) ?_) | (refine wpList_load_mid rfl 30 _ rfl (W.heap.size + 1) 0 rfl (pktList p) _ (HP4.out.below (by exact (by repeat (first | exact Below.refl _ _ | refine below_drawnN ?_ _ | refine below_drawn ?_ | refine below_new ?_ _)))).range Tryd.underlying30 rfl (by kernel_rfl) ?_))
            refine (put_r HIN.out lc s p HPK.out now t0 t2 hpx).mono ?_
            rintro e V1 ⟨g1, e1, f1, e2, f2, da1, dc1, rfl, hb, hqa, -, -, hra⟩
            have HB5 := Lib.hid (below_on HB4.out hb)
            have HQ5 := Lib.hid (HQ4.out.below hb)
            have HP5 := Lib.hid (HP4.out.below hb)
            have HI5 := Lib.hid (HIN.out.below hb)
            have HQA := Lib.hid hqa
            have HRA := Lib.hid hra
            have k6 := fun o => below_cell_of (below_new (Below.refl V1.heap.size V1) o) (HQ5.out.cell 6 rfl)
            have k13 := fun o => below_cell_of (below_new (Below.refl V1.heap.size V1) o) (HQ5.out.cell 13 rfl)
            have hHD := fun o1 o2 => below_cell_of (below_new (below_new (Below.refl V1.heap.size V1) o1) o2) (HQ5.out.cell 5 rfl)
            have hH1 := fun o1 o2 => below_cell_of (below_new (below_new (Below.refl V1.heap.size V1) o1) o2) HI5.out.h1
            have HN5 := Lib.hid (Blk.new V1 (dqList A B room (some ⟨g1, 15, none⟩) 2 v0 now s).toArray 28)
            clear hb hqa hra HB4 HQ4 HP4 HIN
            have k4p := HP5.out
            go_wp2_with (first | (refine wpList_copy_new rfl _ _ rfl rfl rfl (HI5.out.r1.below (by exact (by repeat (first | exact Below.refl _ _ | refine below_drawnN ?_ _ | refine below_drawn ?_ | refine below_new ?_ _)))) (by omega) ?_; intro a1' d1' V2 hown2 hb2; have hB2 : Below V1.heap.size V1 V2 := below_on (by exact (by repeat (first | exact Below.refl _ _ | refine below_drawnN ?_ _ | refine below_drawn ?_ | refine below_new ?_ _))) hb2; have HI6 := Lib.hid (HI5.out.below hB2); have h5 := fun o => below_cell_of (below_new (Below.refl V2.heap.size V2) o) ((HQ5.out.below hB2).cell 5 rfl); have h2c := fun o => below_cell_of (below_new (Below.refl V2.heap.size V2) o) HI6.out.h2; have HN6 := Lib.hid ((HN5.out.below (by exact (by repeat (first | exact Below.refl _ _ | refine below_drawnN ?_ _ | refine below_drawn ?_ | refine below_new ?_ _)))).below hb2); have HB6 := Lib.hid hB2; have HO2 := Lib.hid hown2; have hs2 := hB2.size; clear hb2 hB2 hown2) | (refine wpList_copy_new rfl _ _ rfl rfl rfl (HI6.out.r2.below (by exact (by repeat (first | exact Below.refl _ _ | refine below_drawnN ?_ _ | refine below_drawn ?_ | refine below_new ?_ _)))) (by omega) ?_; intro a2' d2' V3 hown3 hb3; have hB3 : Below V2.heap.size V2 V3 := below_on (by exact (by repeat (first | exact Below.refl _ _ | refine below_drawnN ?_ _ | refine below_drawn ?_ | refine below_new ?_ _))) hb3; have HB7 := Lib.hid (below_on HB6.out hB3); have HO2' := Lib.hid (HO2.out.below hB3); have HO3 := Lib.hid hown3; have HN7 := Lib.hid (HN6.out.below hB3); have l4 := (HQ5.out.below HB7.out).cell 4 rfl; have lq := (HQ5.out.below HB7.out).lt; have n5 := (HN7.out).cell 5 rfl; have ln5 := (HN7.out).lt; have c15 : V3.cell? ⟨g1, 15, none⟩ = some (.slice e1 n1 f1) := (below_cell_of HB7.out HQA.out.h1).trans (by rw [hl1]); have c16 : V3.cell? ⟨g1, 16, none⟩ = some (.slice e2 n2 f2) := (below_cell_of HB7.out HQA.out.h2).trans (by rw [hl2]); have hs3 := hB3.size; have HB23 := Lib.hid hB3; clear hb3 hB3 hown3))
            have q1r := hl1 ▸ HQA.out.r1
            have q2r := hl2 ▸ HQA.out.r2
            refine (samelist_yes e1 a1' n1 f1 d1' xs V3 (q1r.below HB7.out) HO2'.out.rd (by omega)).mono ?_
            rintro e V4 ⟨rfl, hb4⟩
            have HB8 := Lib.hid (below_on HB7.out hb4)
            have n5 := (HN7.out.below hb4).cell 5 rfl
            have c16 : V4.cell? ⟨g1, 16, none⟩ = some (.slice e2 n2 f2) := (below_cell_of HB8.out HQA.out.h2).trans (by rw [hl2])
            have HO4 := Lib.hid (HO3.out.below hb4)
            clear hb4
            go_wp2_with fail
            refine (samelist_yes e2 a2' n2 f2 d2' ys V4 (q2r.below HB8.out) HO4.out.rd (by omega)).mono ?_
            rintro e V5 ⟨rfl, hb5⟩
            have HB9 := Lib.hid (below_on HB8.out hb5)
            have hp9 := HP5.out.below HB9.out
            have w0 := hp9.cell 0 rfl
            have w1 := hp9.cell 1 rfl
            have w2 := hp9.cell 2 rfl
            have w3 := hp9.cell 3 rfl
            have w4 := hp9.cell 4 rfl
            have w5 := hp9.cell 5 rfl
            have w6 := hp9.cell 6 rfl
            have w7 := hp9.cell 7 rfl
            clear hb5 hp9
            iterate 21 (first | go_values | go_skip | go_guarded | go_step | go_upon | go_in | go_back | go_simp)
            refine wp_build_pkt (.tmp 157) rfl p rfl ?_
            go_wp2_with fail
            have hpb : RdPk (V5.alloc (.cells (pktList p).toArray 30)) (.slice (some ⟨V5.heap.size, 0, none⟩) 1 1) [p] := ⟨_, 1, rfl, fun i hi => ⟨V5.heap.size, 0, rfl, by
              obtain rfl : i = 0 := by simp at hi; omega
              exact (Blk.new V5 (pktList p).toArray 30).range⟩⟩
            have hpa : RdPk (V5.alloc (.cells (pktList p).toArray 30)) (.slice da1 1 dc1) [p] := by
              obtain ⟨x, y, h1, h2⟩ := HRA.out
              exact ⟨x, y, h1, fun i hi => by obtain ⟨b, o, e, hr⟩ := h2 i hi; exact ⟨b, o, e, rangeAt_below hr (below_new HB9.out _)⟩⟩
            refine (packets_yes _ _ [p] _ hpa hpb (by simp)).mono ?_
            rintro e V6 ⟨rfl, hb6⟩
            have HBE := Lib.hid (below_on (below_on HB5.out (below_new HB9.out _)) hb6)
            go_wp2
            go_ret
            exact ⟨rfl, by repeat (first | exact HBE.out | refine below_drawnN ?_ _ | refine below_drawn ?_ | refine below_new ?_ _)⟩
          have dfu : ((n1 : Int) + (n2 : Int) == room) = false := by simp; omega
          cases hab : p.able with
          | true =>
            have hpx : putX room xs ys p now = (xs ++ [⟨p, now⟩], ys, []) := by unfold putX; rw [hl1, hl2, if_neg hf, if_pos hab]
            have HAB := Lib.hid hab
            have hrm := HOK.out.r1
            clear hab
            go_wp2_with (first | (refine wpList_load_mid rfl 28 _ rfl W.heap.size 0 rfl (dqList A B room (some ⟨ab, ao, none⟩) lc v0 v7 s) _ (HQ4.out.below (by exact (by repeat (first | exact Below.refl _ _ | refine below_drawnN ?_ _ | refine below_drawn ?_ | refine below_new ?_ _)))).range Tryd.underlying28 rfl (by kernel_rfl) ?_) | (refine wpList_load_mid rfl 30 _ rfl (W.heap.size + 1) 0 rfl (pktList p) _ (HP4.out.below (by exact (by repeat (first | exact Below.refl _ _ | refine below_drawnN ?_ _ | refine below_drawn ?_ | refine below_new ?_ _)))).range Tryd.underlying30 rfl (by kernel_rfl) ?_))
            refine (put_r HIN.out lc s p HPK.out now t0 t2 hpx).mono ?_
            rintro e V1 ⟨g1, e1, f1, e2, f2, da1, dc1, rfl, hb, hqa, -, -, hra⟩
            have HB5 := Lib.hid (below_on HB4.out hb)
            have HQ5 := Lib.hid (HQ4.out.below hb)
            have HP5 := Lib.hid (HP4.out.below hb)
            have HI5 := Lib.hid (HIN.out.below hb)
            have HQA := Lib.hid hqa
            have HRA := Lib.hid hra
            have k6 := fun o => below_cell_of (below_new (Below.refl V1.heap.size V1) o) (HQ5.out.cell 6 rfl)
            have k13 := fun o => below_cell_of (below_new (Below.refl V1.heap.size V1) o) (HQ5.out.cell 13 rfl)
            have hHD := fun o1 o2 => below_cell_of (below_new (below_new (Below.refl V1.heap.size V1) o1) o2) (HQ5.out.cell 5 rfl)
            have hH1 := fun o1 o2 => below_cell_of (below_new (below_new (Below.refl V1.heap.size V1) o1) o2) HI5.out.h1
            have HN5 := Lib.hid (Blk.new V1 (dqList A B room (some ⟨g1, 15, none⟩) 2 v0 now s).toArray 28)
            clear hb hqa hra HB4 HQ4 HP4 HIN
            go_wp2_with (first | (refine wpList_add_item rfl (.tmp 130) (.tmp 134) rfl rfl (HO2'.out.below (by exact (by repeat (first | exact Below.refl _ _ | refine below_drawnN ?_ _ | refine below_drawn ?_ | refine below_new ?_ _)))) (by simp; omega) V3.heap.size 0 ⟨p, now⟩ rfl (by exact (Blk.new V3 (itemList ⟨p, now⟩).toArray 51).range) (by omega) ?_; intro g9 c9 row V4 hrd hg hrow; have hrl : ∀ k, row = some k → V1.heap.size < k ∧ k < V2.heap.size := (fun k e => by (obtain ⟨h1, h2, h3⟩ := hrow k e; obtain ⟨g, e1', h4, h5⟩ := HO2.out.head h2; rw [h3] at e1'; injection e1' with e1'; injection e1' with e1'; subst e1'; omega)); have hB4 : Below V1.heap.size V1 V4 := below_grown (below_on HB7.out (by exact (below_new (Below.refl _ _) _))) hg (fun k hk => by have := (hrl k hk).1; omega); have HX9 := Lib.hid hrd; have HY9 := Lib.hid ((HO3.out.below (by exact (below_new (Below.refl _ _) _))).kept hg (fun ad e hn e2 => by have h1 := hrl _ e2.symm; obtain ⟨g, e', h4, h5⟩ := HO3.out.head hn; rw [e] at e'; injection e' with e'; subst e'; simp only at h1; omega)); have HN9 := Lib.hid ((HN7.out.below (by exact (below_new (Below.refl _ _) _))).kept hg (fun e => by have := (hrl _ e.symm).1; omega)); have HB10 := Lib.hid hB4; clear hrd hg hrow hrl hB4; have n5 := (HN9.out).cell 5 rfl; have ln5 := (HN9.out).lt; have c15 : V4.cell? ⟨g1, 15, none⟩ = some (.slice e1 (n1 + 1) f1) := (below_cell_of HB10.out HQA.out.h1).trans (by rw [List.length_append, hl1]; try rfl); have c16 : V4.cell? ⟨g1, 16, none⟩ = some (.slice e2 (n2) f2) := (below_cell_of HB10.out HQA.out.h2).trans (by rw [hl2])) | (refine wpList_copy_new rfl (.tmp 99) (.tmp 103) rfl rfl rfl (HI5.out.r1.below (by exact (by repeat (first | exact Below.refl _ _ | refine below_drawnN ?_ _ | refine below_drawn ?_ | refine below_new ?_ _)))) (by omega) ?_; intro a1' d1' V2 hown2 hb2; have hB2 : Below V1.heap.size V1 V2 := below_on (by exact (by repeat (first | exact Below.refl _ _ | refine below_drawnN ?_ _ | refine below_drawn ?_ | refine below_new ?_ _))) hb2; have HI6 := Lib.hid (HI5.out.below hB2); have h5 := fun o => below_cell_of (below_new (Below.refl V2.heap.size V2) o) ((HQ5.out.below hB2).cell 5 rfl); have h2c := fun o => below_cell_of (below_new (Below.refl V2.heap.size V2) o) HI6.out.h2; have HN6 := Lib.hid ((HN5.out.below (by exact (by repeat (first | exact Below.refl _ _ | refine below_drawnN ?_ _ | refine below_drawn ?_ | refine below_new ?_ _)))).below hb2); have HB6 := Lib.hid hB2; have HO2 := Lib.hid (hown2.mono (base' := V1.heap.size + 1) (by simp)); have hs2 := hB2.size; clear hb2 hB2 hown2) | (refine wpList_copy_new rfl (.tmp 105) (.tmp 109) rfl rfl rfl (HI6.out.r2.below (by exact (by repeat (first | exact Below.refl _ _ | refine below_drawnN ?_ _ | refine below_drawn ?_ | refine below_new ?_ _)))) (by omega) ?_; intro a2' d2' V3 hown3 hb3; have hB3 : Below V2.heap.size V2 V3 := below_on (by exact (by repeat (first | exact Below.refl _ _ | refine below_drawnN ?_ _ | refine below_drawn ?_ | refine below_new ?_ _))) hb3; have HB7 := Lib.hid (below_on HB6.out hB3); have HO2' := Lib.hid (HO2.out.below hB3); have HO3 := Lib.hid (hown3.mono (base' := V2.heap.size) (by simp)); have HN7 := Lib.hid (HN6.out.below hB3); have l4 := (HQ5.out.below HB7.out).cell 4 rfl; have lq := (HQ5.out.below HB7.out).lt; have hn6 := HN6.out.lt; have p6 : V3.cell? ⟨W.heap.size + 1, 6, none⟩ = some (.bool true) := ((HP5.out.below HB7.out).cell 6 rfl).trans (by rw [HAB.out]); have lp := (HP5.out.below HB7.out).lt; have hs3 := hB3.size; have HB23 := Lib.hid hB3; clear hb3 hB3 hown3) | (refine wpList_build_item rfl (.tmp 133) rfl ⟨p, now⟩ rfl ?_) | (refine wpList_load_mid rfl 30 (.tmp 4) rfl (W.heap.size + 1) 0 rfl (pktList p) _ ((HP5.out.below HB7.out).below (by exact (by repeat (first | exact Below.refl _ _ | refine below_drawnN ?_ _ | refine below_drawn ?_ | refine below_new ?_ _)))).range Tryd.underlying30 rfl (by kernel_rfl) ?_))
            have q1r : RdQ V1 e1 (n1 + 1) (xs ++ [⟨p, now⟩]) := by
              have h := HQA.out.r1
              rw [List.length_append, hl1] at h
              exact h
            have q2r : RdQ V1 e2 n2 ys := hl2 ▸ HQA.out.r2
            refine (samelist_yes e1 (some ⟨g9, 0, none⟩) (n1 + 1) f1 c9 (xs ++ [⟨p, now⟩]) V4 (q1r.below HB10.out) HX9.out (by omega)).mono ?_
            rintro e V5 ⟨rfl, hb5⟩
            have HB11 := Lib.hid (below_on HB10.out hb5)
            have HX11 := Lib.hid (HX9.out.below hb5)
            have HY11 := Lib.hid (HY9.out.below hb5)
            have n5 := (HN9.out.below hb5).cell 5 rfl
            have c16 : V5.cell? ⟨g1, 16, none⟩ = some (.slice e2 n2 f2) := (below_cell_of HB11.out HQA.out.h2).trans (by rw [hl2])
            clear hb5
            go_wp2_with fail
            refine (samelist_yes e2 a2' n2 f2 d2' ys V5 (q2r.below HB11.out) HY11.out.rd (by omega)).mono ?_
            rintro e V6 ⟨rfl, hb6⟩
            have HBE := Lib.hid (below_on HB5.out (below_on HB11.out hb6))
            go_wp2
            go_ret
            exact ⟨rfl, by repeat (first | exact HBE.out | refine below_drawnN ?_ _ | refine below_drawn ?_ | refine below_new ?_ _)⟩
          | false =>
            have hpx : putX room xs ys p now = (xs, ys ++ [⟨p, now⟩], []) := by unfold putX; rw [hl1, hl2, if_neg hf, if_neg (by rw [hab]; simp)]
            have HAB := Lib.hid hab
            have hrm := HOK.out.r1
            clear hab
            go_wp2_with (first | (refine wpList_load_mid rfl 28 _ rfl W.heap.size 0 rfl (dqList A B room (some ⟨ab, ao, none⟩) lc v0 v7 s) _ (HQ4.out.below (by exact (by repeat (first | exact Below.refl _ _ | refine below_drawnN ?_ _ | refine below_drawn ?_ | refine below_new ?_ _)))).range Tryd.underlying28 rfl (by kernel_rfl) ?_) | (refine wpList_load_mid rfl 30 _ rfl (W.heap.size + 1) 0 rfl (pktList p) _ (HP4.out.below (by exact (by repeat (first | exact Below.refl _ _ | refine below_drawnN ?_ _ | refine below_drawn ?_ | refine below_new ?_ _)))).range Tryd.underlying30 rfl (by kernel_rfl) ?_))
            refine (put_r HIN.out lc s p HPK.out now t0 t2 hpx).mono ?_
            rintro e V1 ⟨g1, e1, f1, e2, f2, da1, dc1, rfl, hb, hqa, -, -, hra⟩
            have HB5 := Lib.hid (below_on HB4.out hb)
            have HQ5 := Lib.hid (HQ4.out.below hb)
            have HP5 := Lib.hid (HP4.out.below hb)
            have HI5 := Lib.hid (HIN.out.below hb)
            have HQA := Lib.hid hqa
            have HRA := Lib.hid hra
            have k6 := fun o => below_cell_of (below_new (Below.refl V1.heap.size V1) o) (HQ5.out.cell 6 rfl)
            have k13 := fun o => below_cell_of (below_new (Below.refl V1.heap.size V1) o) (HQ5.out.cell 13 rfl)
            have hHD := fun o1 o2 => below_cell_of (below_new (below_new (Below.refl V1.heap.size V1) o1) o2) (HQ5.out.cell 5 rfl)
            have hH1 := fun o1 o2 => below_cell_of (below_new (below_new (Below.refl V1.heap.size V1) o1) o2) HI5.out.h1
            have HN5 := Lib.hid (Blk.new V1 (dqList A B room (some ⟨g1, 15, none⟩) 2 v0 now s).toArray 28)
            clear hb hqa hra HB4 HQ4 HP4 HIN
            go_wp2_with (first | (refine wpList_add_item rfl (.tmp 119) (.tmp 123) rfl rfl (HO3.out.below (by exact (by repeat (first | exact Below.refl _ _ | refine below_drawnN ?_ _ | refine below_drawn ?_ | refine below_new ?_ _)))) (by simp; omega) V3.heap.size 0 ⟨p, now⟩ rfl (by exact (Blk.new V3 (itemList ⟨p, now⟩).toArray 51).range) (by omega) ?_; intro g9 c9 row V4 hrd hg hrow; have hrl : ∀ k, row = some k → V1.heap.size < k ∧ V2.heap.size ≤ k := (fun k e => by (obtain ⟨h1, h2, h3⟩ := hrow k e; obtain ⟨g, e1', h4, h5⟩ := HO3.out.head h2; rw [h3] at e1'; injection e1' with e1'; injection e1' with e1'; subst e1'; omega)); have hB4 : Below V1.heap.size V1 V4 := below_grown (below_on HB7.out (by exact (below_new (Below.refl _ _) _))) hg (fun k hk => by have := (hrl k hk).1; omega); have HX9 := Lib.hid hrd; have HY9 := Lib.hid ((HO2'.out.below (by exact (below_new (Below.refl _ _) _))).kept hg (fun ad e hn e2 => by have h1 := hrl _ e2.symm; obtain ⟨g, e', h4, h5⟩ := HO2.out.head hn; rw [e] at e'; injection e' with e'; subst e'; simp only at h1; omega)); have HN9 := Lib.hid ((HN7.out.below (by exact (below_new (Below.refl _ _) _))).kept hg (fun e => by have := (hrl _ e.symm).1; omega)); have HB10 := Lib.hid hB4; clear hrd hg hrow hrl hB4; have n5 := (HN9.out).cell 5 rfl; have ln5 := (HN9.out).lt; have c15 : V4.cell? ⟨g1, 15, none⟩ = some (.slice e1 (n1) f1) := (below_cell_of HB10.out HQA.out.h1).trans (by rw [hl1]); have c16 : V4.cell? ⟨g1, 16, none⟩ = some (.slice e2 (n2 + 1) f2) := (below_cell_of HB10.out HQA.out.h2).trans (by rw [List.length_append, hl2]; try rfl)) | (refine wpList_copy_new rfl (.tmp 99) (.tmp 103) rfl rfl rfl (HI5.out.r1.below (by exact (by repeat (first | exact Below.refl _ _ | refine below_drawnN ?_ _ | refine below_drawn ?_ | refine below_new ?_ _)))) (by omega) ?_; intro a1' d1' V2 hown2 hb2; have hB2 : Below V1.heap.size V1 V2 := below_on (by exact (by repeat (first | exact Below.refl _ _ | refine below_drawnN ?_ _ | refine below_drawn ?_ | refine below_new ?_ _))) hb2; have HI6 := Lib.hid (HI5.out.below hB2); have h5 := fun o => below_cell_of (below_new (Below.refl V2.heap.size V2) o) ((HQ5.out.below hB2).cell 5 rfl); have h2c := fun o => below_cell_of (below_new (Below.refl V2.heap.size V2) o) HI6.out.h2; have HN6 := Lib.hid ((HN5.out.below (by exact (by repeat (first | exact Below.refl _ _ | refine below_drawnN ?_ _ | refine below_drawn ?_ | refine below_new ?_ _)))).below hb2); have HB6 := Lib.hid hB2; have HO2 := Lib.hid (hown2.mono (base' := V1.heap.size + 1) (by simp)); have hs2 := hB2.size; clear hb2 hB2 hown2) | (refine wpList_copy_new rfl (.tmp 105) (.tmp 109) rfl rfl rfl (HI6.out.r2.below (by exact (by repeat (first | exact Below.refl _ _ | refine below_drawnN ?_ _ | refine below_drawn ?_ | refine below_new ?_ _)))) (by omega) ?_; intro a2' d2' V3 hown3 hb3; have hB3 : Below V2.heap.size V2 V3 := below_on (by exact (by repeat (first | exact Below.refl _ _ | refine below_drawnN ?_ _ | refine below_drawn ?_ | refine below_new ?_ _))) hb3; have HB7 := Lib.hid (below_on HB6.out hB3); have HO2' := Lib.hid (HO2.out.below hB3); have HO3 := Lib.hid (hown3.mono (base' := V2.heap.size) (by simp)); have HN7 := Lib.hid (HN6.out.below hB3); have l4 := (HQ5.out.below HB7.out).cell 4 rfl; have lq := (HQ5.out.below HB7.out).lt; have hn6 := HN6.out.lt; have p6 : V3.cell? ⟨W.heap.size + 1, 6, none⟩ = some (.bool false) := ((HP5.out.below HB7.out).cell 6 rfl).trans (by rw [HAB.out]); have lp := (HP5.out.below HB7.out).lt; have hs3 := hB3.size; have HB23 := Lib.hid hB3; clear hb3 hB3 hown3) | (refine wpList_build_item rfl (.tmp 122) rfl ⟨p, now⟩ rfl ?_) | (refine wpList_load_mid rfl 30 (.tmp 4) rfl (W.heap.size + 1) 0 rfl (pktList p) _ ((HP5.out.below HB7.out).below (by exact (by repeat (first | exact Below.refl _ _ | refine below_drawnN ?_ _ | refine below_drawn ?_ | refine below_new ?_ _)))).range Tryd.underlying30 rfl (by kernel_rfl) ?_))
            have q1r : RdQ V1 e1 n1 xs := hl1 ▸ HQA.out.r1
            have q2r : RdQ V1 e2 (n2 + 1) (ys ++ [⟨p, now⟩]) := by
              have h := HQA.out.r2
              rw [List.length_append, hl2] at h
              exact h
            refine (samelist_yes e1 a1' n1 f1 d1' xs V4 (q1r.below HB10.out) HY9.out.rd (by omega)).mono ?_
            rintro e V5 ⟨rfl, hb5⟩
            have HB11 := Lib.hid (below_on HB10.out hb5)
            have HX11 := Lib.hid (HX9.out.below hb5)
            have HY11 := Lib.hid (HY9.out.below hb5)
            have n5 := (HN9.out.below hb5).cell 5 rfl
            have c16 : V5.cell? ⟨g1, 16, none⟩ = some (.slice e2 (n2 + 1) f2) := (below_cell_of HB11.out HQA.out.h2).trans (by rw [List.length_append, hl2]; try rfl)
            clear hb5
            go_wp2_with fail
            refine (samelist_yes e2 (some ⟨g9, 0, none⟩) (n2 + 1) f2 c9 (ys ++ [⟨p, now⟩]) V5 (q2r.below HB11.out) HX11.out (by omega)).mono ?_
            rintro e V6 ⟨rfl, hb6⟩
            have HBE := Lib.hid (below_on HB5.out (below_on HB11.out hb6))
            go_wp2
            go_ret
            exact ⟨rfl, by repeat (first | exact HBE.out | refine below_drawnN ?_ _ | refine below_drawn ?_ | refine below_new ?_ _)⟩
end Go.Proofs.YtdecclklenaoaaaDoor
