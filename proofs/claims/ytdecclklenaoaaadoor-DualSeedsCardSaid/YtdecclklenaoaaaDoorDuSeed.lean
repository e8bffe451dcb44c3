/- The statement DualSeeds: it returns true, whatever the input, and leaves what was in memory alone. -/
import Derived.Test.YtdecclklenaoaaaDoorDuHeadB
import Derived.Test.YtdecclklenaoaaaDoorDuSame
import Derived.Test.YtdecclklenaoaaaDoorDuLaws
import Derived.Test.YtdecclklenaoaaaDoorEaPar
namespace Go.Proofs.YtdecclklenaoaaaDoor
open Go.RowKit

theorem seed_at0 {V : World} {a : Option Addr} {n : Nat} {x : Ea.Item} {xs : List Ea.Item} (h : RdQ V a n (x :: xs)) (hn : 0 < n) : ∃ b o, a = some ⟨b, o, none⟩ ∧ V.rangeAt b o (itemList x) := by
  obtain ⟨b, o, e, hr⟩ := h.2 0 hn
  rw [Nat.zero_mul, Nat.add_zero] at hr
  exact ⟨b, o, e, hr⟩
theorem putX_short {room : Int} {xs ys : List Ea.Item} {p : Ea.Pkt} {now : Int} {xs1 ys1 : List Ea.Item} {dr1 : List Ea.Pkt} (h : putX room xs ys p now = (xs1, ys1, dr1)) : dr1.length ≤ 1 := by
  unfold putX at h
  split at h
  · injection h with _ h; injection h with _ h; subst h; simp
  · split at h
    · injection h with _ h; injection h with _ h; subst h; simp
    · injection h with _ h; injection h with _ h; subst h; simp
set_option maxRecDepth 100000 in
set_option maxHeartbeats 8000000 in
theorem seed_entry (kind A B C room : Int) (la : Option Addr) (ln lc : Nat) (v0 v1 v2 v3 v4 v5 v6 v7 : Int) (s : Nat) (p : Ea.Pkt) (now seed : Int) (W : World) (hL : RdLs W la ln) (hln : (ln : Int) ≤ 9223372036854775807) (_ : (Lit.int .i64 now).wf = true) (hsw : (Lit.int .u64 seed).wf = true) (ht : Table W) :
    Calls Tryd.prog 8 #[.agg #[.int .i64 kind, .int .i64 A, .int .i64 B, .int .i64 C, .int .i64 room, .slice la ln lc, .int .i64 v0, .int .i64 v1, .int .i64 v2, .int .i64 v3, .int .i64 v4, .int .i64 v5, .int .i64 v6, .int .i64 v7, .int .u64 (s : Int)], pktVal p, .int .i64 now, .int .u64 seed] W fun e V => e = .returned (.bool true) ∧ Below W.heap.size W V := by
  obtain ⟨sn, rfl⟩ : ∃ sn : Nat, seed = (sn : Int) := ⟨seed.toNat, by
    simp only [Lit.wf, Bool.and_eq_true, decide_eq_true_eq] at hsw
    have := hsw.1
    simp [IntKind.min, IntKind.signed] at this
    omega⟩
  clear hsw
  have HL := Lib.hid hL
  have HT := Lib.hid ht
  clear hL ht
  go_enter Tryd.func8, Tryd.ntmps8
  go_wp2_with fail
  refine (head_ok _ (table_below HT.out (by exact below_new (below_new (Below.refl _ _) _) _))).mono ?_
  rintro e w1 ⟨rfl, hb1⟩
  have HB1 := Lib.hid (below_on (w := W) (by exact below_new (below_new (Below.refl _ _) _) _) hb1)
  have HQ1 : RowKit.Hid (Blk w1 W.heap.size [.int .i64 kind, .int .i64 A, .int .i64 B, .int .i64 C, .int .i64 room, .slice la ln lc, .int .i64 v0, .int .i64 v1, .int .i64 v2, .int .i64 v3, .int .i64 v4, .int .i64 v5, .int .i64 v6, .int .i64 v7, .int .u64 (s : Int)]) := Lib.hid (((Blk.new W #[.int .i64 kind, .int .i64 A, .int .i64 B, .int .i64 C, .int .i64 room, .slice la ln lc, .int .i64 v0, .int .i64 v1, .int .i64 v2, .int .i64 v3, .int .i64 v4, .int .i64 v5, .int .i64 v6, .int .i64 v7, .int .u64 (s : Int)] 28).below (below_new (Below.refl _ _) _)).below hb1)
  have HP1 : RowKit.Hid (Blk w1 (W.heap.size + 1) (pktList p)) := Lib.hid ((blk_new_at (W.alloc _) (pktList p).toArray 30 (by simp)).below hb1)
  clear hb1
  go_wp2_with (refine wpList_load_mid rfl 28 _ rfl W.heap.size 0 rfl [.int .i64 kind, .int .i64 A, .int .i64 B, .int .i64 C, .int .i64 room, .slice la ln lc, .int .i64 v0, .int .i64 v1, .int .i64 v2, .int .i64 v3, .int .i64 v4, .int .i64 v5, .int .i64 v6, .int .i64 v7, .int .u64 (s : Int)] _ HQ1.out.range Tryd.underlying28 rfl (by kernel_rfl) ?_)
  refine (usable_any kind A B C room la ln lc v0 v1 v2 v3 v4 v5 v6 v7 s now w1 (HL.out.below HB1.out) hln).mono ?_
  rintro e w2 ⟨⟨b, rfl, hus⟩, hb2⟩
  have HUS := Lib.hid hus
  have HB2 := Lib.hid (below_on HB1.out hb2)
  have HQ2 := Lib.hid (HQ1.out.below hb2)
  have HP2 := Lib.hid (HP1.out.below hb2)
  have HB12 := Lib.hid hb2
  clear hus hb2 HQ1 HP1
  cases b with
  | false =>
    go_wp2
    go_ret
    exact ⟨rfl, HB2.out⟩
  | true =>
    obtain ⟨⟨rfl, rfl, rfl, rfl, rfl, rfl, rfl, rfl, rfl, ab, ao, a1, n1, c1, xs, a2, n2, c2, ys, rfl, hq⟩, t0, t1, t2⟩ := HUS.out rfl
    have HIN := Lib.hid (hq.below HB12.out)
    have HOK := Lib.hid hq.ok
    have HTB := Lib.hid (table_below HT.out HB2.out)
    have hl1 := hq.r1.1
    have hl2 := hq.r2.1
    have hsh := hq.ok.short
    have HQ2 : RowKit.Hid (Blk w2 W.heap.size (dqList A B room (some ⟨ab, ao, none⟩) lc v0 v7 s)) := HQ2
    have hzq := HQ2.out.lt
    clear hq HUS HB12 HB1 HL
    obtain ⟨xs1, ys1, dr1, hpx⟩ : ∃ xs1 ys1 dr1, putX room xs ys p now = (xs1, ys1, dr1) := ⟨_, _, _, rfl⟩
    have hdr := putX_short hpx
    have HPX := Lib.hid hpx
    clear hpx
    have kp0 := HP2.out.cell 0 rfl
    have kp1 := HP2.out.cell 1 rfl
    have kp2 := HP2.out.cell 2 rfl
    have kp3 := HP2.out.cell 3 rfl
    have kp4 := HP2.out.cell 4 rfl
    have kp5 := HP2.out.cell 5 rfl
    have kp6 := HP2.out.cell 6 rfl
    have kp7 := HP2.out.cell 7 rfl
    have zp := HP2.out.lt
    cases hok : decide p.ok with
    | false =>
      have HD := Lib.hid hok
      clear hok
      go_wp2_with fail
      refine (packet_any p _).mono ?_
      rw [HD.out]
      rintro e w3 ⟨rfl, hb3⟩
      have HB3 := Lib.hid (below_on HB2.out hb3)
      go_wp2
      go_ret
      exact ⟨rfl, HB3.out⟩
    | true =>
     as_aux_lemma =>
      have HPK := Lib.hid (of_decide_eq_true hok)
      have HD := Lib.hid hok
      clear hok
      go_wp2_with fail
      refine (packet_any p _).mono ?_
      rw [HD.out]
      rintro e w3 ⟨rfl, hb3⟩
      have HB3 := Lib.hid (below_on HB2.out hb3)
      have HQ3 := Lib.hid (HQ2.out.below hb3)
      have HP3 := Lib.hid (HP2.out.below hb3)
      have HI3 := Lib.hid (HIN.out.below hb3)
      have HT3 := Lib.hid (table_below HTB.out hb3)
      clear hb3 HB2 HQ2 HP2 HIN HTB hzq zp kp0 kp1 kp2 kp3 kp4 kp5 kp6 kp7
      go_wp2_with (first | (refine wpList_load_mid rfl 28 _ rfl W.heap.size 0 rfl (dqList A B room (some ⟨ab, ao, none⟩) lc v0 v7 s) _ (HQ3.out.below (by exact (by repeat (first | exact Below.refl _ _ | refine below_drawnN ?_ _ | refine below_drawn ?_ | refine below_new ?_ _)))).range Tryd.underlying28 rfl (by kernel_rfl) ?_) | (refine wpList_load_mid rfl 30 _ rfl (W.heap.size + 1) 0 rfl (pktList p) _ (HP3.out.below (by exact (by repeat (first | exact Below.refl _ _ | refine below_drawnN ?_ _ | refine below_drawn ?_ | refine below_new ?_ _)))).range Tryd.underlying30 rfl (by kernel_rfl) ?_))
      have HO3 : RowKit.Hid (Blk (w3.alloc (.cells (dqList A B room (some ⟨ab, ao, none⟩) lc v0 v7 sn).toArray 28)) w3.heap.size (dqList A B room (some ⟨ab, ao, none⟩) lc v0 v7 sn)) := Lib.hid (Blk.new w3 (dqList A B room (some ⟨ab, ao, none⟩) lc v0 v7 sn).toArray 28)
      refine (put_r (HI3.out.below (by exact below_new (Below.refl _ _) _)) lc s p HPK.out now t0 t2 HPX.out).mono ?_
      rintro e V1 ⟨g1, e1, f1, e2, f2, da1, dc1, rfl, hb, hqa, -, -, hra⟩
      have hbw : Below w3.heap.size w3 V1 := below_on (below_new (Below.refl _ _) _) hb
      have HB4 := Lib.hid (below_on HB3.out hbw)
      have HQ4 := Lib.hid (HQ3.out.below hbw)
      have HP4 := Lib.hid (HP3.out.below hbw)
      have HI4 := Lib.hid (HI3.out.below hbw)
      have HT4 := Lib.hid (table_below HT3.out hbw)
      have HO4 := Lib.hid (HO3.out.below hb)
      have HQA := Lib.hid hqa
      have HRA := Lib.hid hra
      clear hb hbw hqa hra HB3 HQ3 HP3 HI3 HT3 HO3
      go_wp2_with (first | (refine wpList_load_mid rfl 28 _ rfl w3.heap.size 0 rfl (dqList A B room (some ⟨ab, ao, none⟩) lc v0 v7 sn) _ (HO4.out.below (by exact (by repeat (first | exact Below.refl _ _ | refine below_drawnN ?_ _ | refine below_drawn ?_ | refine below_new ?_ _)))).range Tryd.underlying28 rfl (by kernel_rfl) ?_) | (refine wpList_load_mid rfl 30 _ rfl (W.heap.size + 1) 0 rfl (pktList p) _ (HP4.out.below (by exact (by repeat (first | exact Below.refl _ _ | refine below_drawnN ?_ _ | refine below_drawn ?_ | refine below_new ?_ _)))).range Tryd.underlying30 rfl (by kernel_rfl) ?_))
      have HA4 := Lib.hid (Blk.new V1 (dqList A B room (some ⟨g1, 15, none⟩) 2 v0 now s).toArray 28)
      refine (put_r (HI4.out.below (by exact below_new (Below.refl _ _) _)) lc sn p HPK.out now t0 t2 HPX.out).mono ?_
      rintro e V2 ⟨g2, e3, f3, e4, f4, da2, dc2, rfl, hb, hqb, -, -, hrb⟩
      have hbw : Below V1.heap.size V1 V2 := below_on (below_new (Below.refl _ _) _) hb
      have HB5 := Lib.hid (below_on HB4.out hbw)
      have HQ5 := Lib.hid (HQ4.out.below hbw)
      have HI5 := Lib.hid (HI4.out.below hbw)
      have HT5 := Lib.hid (table_below HT4.out hbw)
      have HO5 := Lib.hid (HO4.out.below hbw)
      have HA5 := Lib.hid (HA4.out.below hb)
      have HQA5 := Lib.hid (HQA.out.below hbw)
      have HQB5 := Lib.hid hqb
      have hra5 : RdPk V2 (.slice da1 dr1.length dc1) dr1 := by
        obtain ⟨x, y, h1, h2⟩ := HRA.out
        exact ⟨x, y, h1, fun i hi => by obtain ⟨b, o, e, hr⟩ := h2 i hi; exact ⟨b, o, e, rangeAt_below hr hbw⟩⟩
      have HRA5 := Lib.hid hra5
      have HRB5 := Lib.hid hrb
      have j0 := fun o => below_cell_of (below_new (Below.refl V2.heap.size V2) o) (HA5.out.cell 0 rfl)
      have j1 := fun o => below_cell_of (below_new (Below.refl V2.heap.size V2) o) (HA5.out.cell 1 rfl)
      have j2 := fun o => below_cell_of (below_new (Below.refl V2.heap.size V2) o) (HA5.out.cell 2 rfl)
      have j3 := fun o => below_cell_of (below_new (Below.refl V2.heap.size V2) o) (HA5.out.cell 3 rfl)
      have j4 := fun o => below_cell_of (below_new (Below.refl V2.heap.size V2) o) (HA5.out.cell 4 rfl)
      have j5 := fun o => below_cell_of (below_new (Below.refl V2.heap.size V2) o) (HA5.out.cell 5 rfl)
      have j6 := fun o => below_cell_of (below_new (Below.refl V2.heap.size V2) o) (HA5.out.cell 6 rfl)
      have j7 := fun o => below_cell_of (below_new (Below.refl V2.heap.size V2) o) (HA5.out.cell 7 rfl)
      have j8 := fun o => below_cell_of (below_new (Below.refl V2.heap.size V2) o) (HA5.out.cell 8 rfl)
      have j9 := fun o => below_cell_of (below_new (Below.refl V2.heap.size V2) o) (HA5.out.cell 9 rfl)
      have j10 := fun o => below_cell_of (below_new (Below.refl V2.heap.size V2) o) (HA5.out.cell 10 rfl)
      have j11 := fun o => below_cell_of (below_new (Below.refl V2.heap.size V2) o) (HA5.out.cell 11 rfl)
      have j12 := fun o => below_cell_of (below_new (Below.refl V2.heap.size V2) o) (HA5.out.cell 12 rfl)
      have j13 := fun o => below_cell_of (below_new (Below.refl V2.heap.size V2) o) (HA5.out.cell 13 rfl)
      have j14 := fun o => below_cell_of (below_new (Below.refl V2.heap.size V2) o) (HA5.out.cell 14 rfl)
      clear hb hbw hqb hrb hra5 HB4 HQ4 HP4 HI4 HT4 HO4 HA4 HQA HRA
      as_aux_lemma =>
       go_wp2_with fail
       refine (same_yes (HQA5.out.below (below_new (Below.refl _ _) _)) (HQB5.out.below (below_new (Below.refl _ _) _))).mono ?_
       rintro e V3 ⟨rfl, hb⟩
       have hbw : Below V2.heap.size V2 V3 := below_on (by exact below_new (Below.refl _ _) _) hb
       have hra5 : RdPk V3 (.slice da1 dr1.length dc1) dr1 := by
         obtain ⟨x, y, h1, h2⟩ := HRA5.out
         exact ⟨x, y, h1, fun i hi => by obtain ⟨b, o, e, hr⟩ := h2 i hi; exact ⟨b, o, e, rangeAt_below hr hbw⟩⟩
       have hrb5 : RdPk V3 (.slice da2 dr1.length dc2) dr1 := by
         obtain ⟨x, y, h1, h2⟩ := HRB5.out
         exact ⟨x, y, h1, fun i hi => by obtain ⟨b, o, e, hr⟩ := h2 i hi; exact ⟨b, o, e, rangeAt_below hr hbw⟩⟩
       have HRA6 := Lib.hid hra5
       have HRB6 := Lib.hid hrb5
       have HB6 := Lib.hid (below_on HB5.out hbw)
       have HQ6 := Lib.hid (HQ5.out.below hbw)
       have HI6 := Lib.hid (HI5.out.below hbw)
       have HT6 := Lib.hid (table_below HT5.out hbw)
       have HO6 := Lib.hid (HO5.out.below hbw)
       clear hb hbw hra5 hrb5 HB5 HQ5 HI5 HT5 HO5 HA5 HQA5 HQB5 HRA5 HRB5 j0 j1 j2 j3 j4 j5 j6 j7 j8 j9 j10 j11 j12 j13 j14
       go_wp2_with fail
       refine (packets_yes _ _ dr1 V3 HRA6.out HRB6.out (by omega)).mono ?_
       rintro e V4 ⟨rfl, hb⟩
       have HB7 := Lib.hid (below_on HB6.out hb)
       have hq7 := HQ6.out.below hb
       have hi7 := HI6.out.below hb
       have HT7 := Lib.hid (table_below HT6.out hb)
       have HO7 := Lib.hid (HO6.out.below hb)
       have c1' := hi7.h1
       have zc := World.block_lt_of_cell? _ _ c1'
       simp only at zc
       have q5 := hq7.cell 5 rfl
       have zq := hq7.lt
       have HQ7 := Lib.hid hq7
       have HI7 := Lib.hid hi7
       clear hb hq7 hi7 HB6 HQ6 HI6 HT6 HO6 HRA6 HRB6
       go_wp2_with (first | (refine wpList_load_mid rfl 28 _ rfl w3.heap.size 0 rfl (dqList A B room (some ⟨ab, ao, none⟩) lc v0 v7 sn) _ (HO7.out.below (by exact (by repeat (first | exact Below.refl _ _ | refine below_drawnN ?_ _ | refine below_drawn ?_ | refine below_new ?_ _)))).range Tryd.underlying28 rfl (by kernel_rfl) ?_))
       as_aux_lemma =>
        have hNN := below_new (below_new (below_new (Below.refl V4.heap.size V4) (.cells (dqList A B room (some ⟨V4.heap.size + 1 + 1, 0, none⟩) 2 v0 v7 sn).toArray 28)) (.cells #[] 51)) (.cells #[.slice a1 n1 c1, .slice (some ⟨V4.heap.size + 1, 0, none⟩) 0 0] 49)
        have hb5 := blk_new_at ((V4.alloc (.cells (dqList A B room (some ⟨V4.heap.size + 1 + 1, 0, none⟩) 2 v0 v7 sn).toArray 28)).alloc (.cells #[] 51)) #[.slice a1 n1 c1, .slice (some ⟨V4.heap.size + 1, 0, none⟩) 0 0] 49 (g := V4.heap.size + 1 + 1) (by simp only [World.size_alloc])
        have hl := HOK.out.len
        have okx : Du.Ok A B room v0 v7 xs [] := ⟨HOK.out.a0, HOK.out.a1, HOK.out.b0, HOK.out.b1, HOK.out.r0, HOK.out.r1, HOK.out.m0, HOK.out.m1, HOK.out.t0, HOK.out.t1, by simp; omega, HOK.out.lx, Ea.listOk_nil _, HOK.out.ax, fun i h => absurd h (by simp)⟩
        have qo : QIn _ A B room (V4.heap.size + 1 + 1) 0 v0 v7 a1 n1 c1 xs (some ⟨V4.heap.size + 1, 0, none⟩) 0 0 [] := ⟨hb5.cell 0 rfl, hb5.cell 1 rfl, HI7.out.r1.below hNN, ⟨rfl, fun i hi => absurd hi (Nat.not_lt_zero i)⟩, okx⟩
        have QO := Lib.hid qo
        have HT8 := Lib.hid (table_below HT7.out hNN)
        have HB8 := Lib.hid (below_on HB7.out hNN)
        have HQ8 := Lib.hid (HQ7.out.below hNN)
        have HI8 := Lib.hid (HI7.out.below hNN)
        clear hNN hb5 okx qo c1' q5 zc zq hl HT7 HB7 HQ7 HI7 HO7
        rcases xs with _ | ⟨x, xt⟩
        · as_aux_lemma =>
          refine (take_r QO.out 2 sn HT8.out now t0 t2 (xs' := []) (ys' := []) (row := 0) (s' := sn) (got := none) (drops := []) (by rw [Du.take]) default false rfl rfl).mono ?_
          obtain rfl : n1 = 0 := hl1.symm
          rintro e V5 ⟨g5, e5, f5, e6, f6, da5, dc5, rfl, hb, -, -, -, -⟩
          have HBE := Lib.hid (below_on HB8.out hb)
          have hq9 := HQ8.out.below hb
          have hi9 := HI8.out.below hb
          have NN : ∀ o1 o2, Below V5.heap.size V5 ((V5.alloc o1).alloc o2) := fun o1 o2 => below_new (below_new (Below.refl _ _) _) _
          have N4 : ∀ o1 o2 o3 o4, Below V5.heap.size V5 ((((V5.alloc o1).alloc o2).alloc o3).alloc o4) := fun o1 o2 o3 o4 => below_new (below_new (below_new (below_new (Below.refl _ _) _) _) _) _
          have c1' := fun o1 o2 => below_cell_of (NN o1 o2) hi9.h1
          have q5 := fun o1 o2 => below_cell_of (NN o1 o2) (hq9.cell 5 rfl)
          have q1 := fun o1 o2 o3 o4 => below_cell_of (N4 o1 o2 o3 o4) (hq9.cell 1 rfl)
          clear hb hq9 hi9 NN N4 HB8 HQ8 HI8 HT8 QO
          go_wp2
          go_ret
          exact ⟨rfl, by repeat (first | exact HBE.out | refine below_drawnN ?_ _ | refine below_drawn ?_ | refine below_new ?_ _)⟩
        · have hlow := (HOK.out.lx 0 (by simp)).low
          have hhigh := (HOK.out.lx 0 (by simp)).high
          simp only [List.getD_cons_zero] at hlow hhigh
          have e2w : IntKind.i64.wrap (now - x.since) = now - x.since := by rw [IntKind.wrap_i64]; omega
          have d3 : ((n1 : Int) == 0) = false := by rw [← hl1]; simp; omega
          have hn0 : 0 < n1 := by rw [← hl1]; simp
          have hrn : ¬ Du.rnd sn < 0 := by have := Du.rnd_nonneg sn; omega
          clear hlow hhigh
          by_cases hA : A ≤ now - x.since
          · as_aux_lemma =>
            refine (take_r QO.out 2 sn HT8.out now t0 t2 (xs' := xt) (ys' := []) (row := 0) (s' := sn) (got := some { x.p with marked := true }) (drops := []) (by rw [Du.take, if_pos hA]) { x.p with marked := true } true rfl rfl).mono ?_
            have dA : decide (A ≤ now - x.since) = true := decide_eq_true hA
            rintro e V5 ⟨g5, e5, f5, e6, f6, da5, dc5, rfl, hb, -, -, -, -⟩
            have HBE := Lib.hid (below_on HB8.out hb)
            have hq9 := HQ8.out.below hb
            have hi9 := HI8.out.below hb
            have NN : ∀ o1 o2, Below V5.heap.size V5 ((V5.alloc o1).alloc o2) := fun o1 o2 => below_new (below_new (Below.refl _ _) _) _
            have N4 : ∀ o1 o2 o3 o4, Below V5.heap.size V5 ((((V5.alloc o1).alloc o2).alloc o3).alloc o4) := fun o1 o2 o3 o4 => below_new (below_new (below_new (below_new (Below.refl _ _) _) _) _) _
            have c1' := fun o1 o2 => below_cell_of (NN o1 o2) hi9.h1
            have q5 := fun o1 o2 => below_cell_of (NN o1 o2) (hq9.cell 5 rfl)
            have q1 := fun o1 o2 o3 o4 => below_cell_of (N4 o1 o2 o3 o4) (hq9.cell 1 rfl)
            obtain ⟨xb, xo, rfl, hxr⟩ := seed_at0 hi9.r1 hn0
            have x0 : ∀ o1 o2, ((V5.alloc o1).alloc o2).cell? ⟨xb, xo, none⟩ = some (.int .i64 x.p.flow) := fun o1 o2 => below_cell_of (NN o1 o2) (hxr 0 _ rfl)
            have x1 := fun o1 o2 => below_cell_of (NN o1 o2) (hxr 1 _ rfl)
            have x2 := fun o1 o2 => below_cell_of (NN o1 o2) (hxr 2 _ rfl)
            have x3 := fun o1 o2 => below_cell_of (NN o1 o2) (hxr 3 _ rfl)
            have x4 := fun o1 o2 => below_cell_of (NN o1 o2) (hxr 4 _ rfl)
            have x5 := fun o1 o2 => below_cell_of (NN o1 o2) (hxr 5 _ rfl)
            have x6 := fun o1 o2 => below_cell_of (NN o1 o2) (hxr 6 _ rfl)
            have x7 := fun o1 o2 => below_cell_of (NN o1 o2) (hxr 7 _ rfl)
            have x8 := fun o1 o2 => below_cell_of (NN o1 o2) (hxr 8 _ rfl)
            clear hb hq9 hi9 NN N4 hxr HB8 HQ8 HI8 HT8 QO
            cases hxm : x.p.marked with
            | false =>
             as_aux_lemma =>
              go_wp2
              go_ret
              exact ⟨rfl, by repeat (first | exact HBE.out | refine below_drawnN ?_ _ | refine below_drawn ?_ | refine below_new ?_ _)⟩
            | true =>
             as_aux_lemma =>
              go_wp2
              go_ret
              exact ⟨rfl, by repeat (first | exact HBE.out | refine below_drawnN ?_ _ | refine below_drawn ?_ | refine below_new ?_ _)⟩
          · as_aux_lemma =>
            refine (take_r QO.out 2 sn HT8.out now t0 t2 (xs' := xt) (ys' := []) (row := 0) (s' := Rand.nextSeed sn) (got := some x.p) (drops := []) (by rw [Du.take, if_neg hA, if_neg hrn]) x.p true rfl rfl).mono ?_
            generalize Rand.nextSeed sn = sn'
            have dA : decide (A ≤ now - x.since) = false := decide_eq_false hA
            rintro e V5 ⟨g5, e5, f5, e6, f6, da5, dc5, rfl, hb, -, -, -, -⟩
            have HBE := Lib.hid (below_on HB8.out hb)
            have hq9 := HQ8.out.below hb
            have hi9 := HI8.out.below hb
            have NN : ∀ o1 o2, Below V5.heap.size V5 ((V5.alloc o1).alloc o2) := fun o1 o2 => below_new (below_new (Below.refl _ _) _) _
            have N4 : ∀ o1 o2 o3 o4, Below V5.heap.size V5 ((((V5.alloc o1).alloc o2).alloc o3).alloc o4) := fun o1 o2 o3 o4 => below_new (below_new (below_new (below_new (Below.refl _ _) _) _) _) _
            have c1' := fun o1 o2 => below_cell_of (NN o1 o2) hi9.h1
            have q5 := fun o1 o2 => below_cell_of (NN o1 o2) (hq9.cell 5 rfl)
            have q1 := fun o1 o2 o3 o4 => below_cell_of (N4 o1 o2 o3 o4) (hq9.cell 1 rfl)
            obtain ⟨xb, xo, rfl, hxr⟩ := seed_at0 hi9.r1 hn0
            have x0 : ∀ o1 o2, ((V5.alloc o1).alloc o2).cell? ⟨xb, xo, none⟩ = some (.int .i64 x.p.flow) := fun o1 o2 => below_cell_of (NN o1 o2) (hxr 0 _ rfl)
            have x1 := fun o1 o2 => below_cell_of (NN o1 o2) (hxr 1 _ rfl)
            have x2 := fun o1 o2 => below_cell_of (NN o1 o2) (hxr 2 _ rfl)
            have x3 := fun o1 o2 => below_cell_of (NN o1 o2) (hxr 3 _ rfl)
            have x4 := fun o1 o2 => below_cell_of (NN o1 o2) (hxr 4 _ rfl)
            have x5 := fun o1 o2 => below_cell_of (NN o1 o2) (hxr 5 _ rfl)
            have x6 := fun o1 o2 => below_cell_of (NN o1 o2) (hxr 6 _ rfl)
            have x7 := fun o1 o2 => below_cell_of (NN o1 o2) (hxr 7 _ rfl)
            have x8 := fun o1 o2 => below_cell_of (NN o1 o2) (hxr 8 _ rfl)
            clear hb hq9 hi9 NN N4 hxr HB8 HQ8 HI8 HT8 QO
            cases hxm : x.p.marked with
            | false =>
             as_aux_lemma =>
              go_wp2
              go_ret
              exact ⟨rfl, by repeat (first | exact HBE.out | refine below_drawnN ?_ _ | refine below_drawn ?_ | refine below_new ?_ _)⟩
            | true =>
             as_aux_lemma =>
              go_wp2
              go_ret
              exact ⟨rfl, by repeat (first | exact HBE.out | refine below_drawnN ?_ _ | refine below_drawn ?_ | refine below_new ?_ _)⟩
end Go.Proofs.YtdecclklenaoaaaDoor
