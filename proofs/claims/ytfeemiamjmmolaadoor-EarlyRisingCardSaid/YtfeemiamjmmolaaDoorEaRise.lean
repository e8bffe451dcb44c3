/- The statement EarlyRising: it returns true, whatever the input, and leaves what was in memory alone. -/
import Derived.Test.YtfeemiamjmmolaaDoorEaHead
import Derived.Test.YtfeemiamjmmolaaDoorEaPar
namespace Go.Proofs.YtfeemiamjmmolaaDoor
open Go.RowKit

theorem fated_nonneg (what : Int) (a m : Bool) : 0 ≤ Ea.fated what a m := by
  unfold Ea.fated
  split
  · omega
  · split
    · split
      · omega
      · split <;> omega
    · omega
theorem verdict_rise {A B n room z zh : Int} {s : Nat} (h : ¬ n = room) (hz : z ≤ zh) (h0 : (Ea.verdict A B n room z s).1 ≠ 0) : (Ea.verdict A B n room zh s).1 = 1 := by
  unfold Ea.verdict at h0 ⊢
  rw [if_neg h] at h0 ⊢
  by_cases h1 : z - 1024 * A < 0
  · rw [if_pos h1] at h0
    exact absurd rfl h0
  · rw [if_neg h1] at h0
    rw [if_neg (by omega)]
    by_cases h2 : 1024 * (B - A) ≤ zh - 1024 * A
    · rw [if_pos h2]
    · rw [if_neg h2]
      rw [if_neg (by omega)] at h0
      by_cases h3 : (Rand.num s : Int) / 4294967296 % (1024 * (B - A)) < z - 1024 * A
      · rw [if_pos (by omega)]
      · rw [if_neg h3] at h0
        exact absurd rfl h0
theorem rise_key (A B C room : Int) (ad : Addr) (lc : Nat) (v0 v7 : Int) (s : Nat) (xs : List Ea.Item) (hq : QOk A B C room v0 v7 xs) (hne : ¬ (xs.length : Int) = room) (p : Ea.Pkt) (hp : p.ok) (now : Int) (h0 : v7 ≤ now) (h1 : now ≤ 10000000) (what : Int) (s1 : Nat) (hv : Ea.verdict A B xs.length room (Ea.avg v0 xs.length (2 ^ C.toNat)) s = (what, s1)) (vh : Int) (g1 : v0 ≤ vh) (g2 : vh ≤ 512000) (hm : p.marked = false) :
    ∃ fb, (∀ V, HoldsL V ad xs → Table V → Calls Tryd.prog 12 #[.agg #[.int .i64 2, .int .i64 A, .int .i64 B, .int .i64 C, .int .i64 room, .slice (some ad) 1 lc, .int .i64 vh, .int .i64 0, .int .i64 0, .int .i64 0, .int .i64 0, .int .i64 0, .int .i64 0, .int .i64 v7, .int .u64 (s : Int)], pktVal p, .int .i64 now] V fun e V' => e = .returned (.int .i64 fb) ∧ Below V.heap.size V V') ∧ (Ea.fated what p.able false = 0 ∨ 0 < fb) ∧ 0 ≤ fb := by
  have hqh : QOk A B C room vh v7 xs := ⟨hq.a0, hq.ab, hq.b1, hq.c0, hq.c1, hq.r0, hq.r1, hq.t0, hq.t1, Int.le_trans hq.w0 g1, g2, hq.len, hq.list⟩
  obtain ⟨wh, sh, hvh⟩ : ∃ a b, Ea.verdict A B xs.length room (Ea.avg vh xs.length (2 ^ C.toNat)) s = (a, b) := ⟨_, _, rfl⟩
  refine ⟨_, fun V k1 k2 => fate_any A B C room ad lc vh v7 s xs V k1 hqh k2 p hp now h0 h1 wh sh hvh, ?_, fated_nonneg _ _ _⟩
  rw [hm]
  by_cases hw : what = 0
  · subst hw
    exact Or.inl rfl
  · right
    have hr := verdict_rise hne (Ea.avg_mono (pow_one_le C.toNat) g1) (s := s) (by rw [hv]; exact hw)
    rw [hvh] at hr
    rw [show wh = 1 from hr]
    cases p.able <;> decide
set_option maxRecDepth 100000 in
set_option maxHeartbeats 16000000 in
theorem rising_entry (kind A B C room : Int) (la : Option Addr) (ln lc : Nat) (v0 v1 v2 v3 v4 v5 v6 v7 : Int) (s : Nat) (p : Ea.Pkt) (now more : Int) (W : World) (hL : RdLs W la ln) (hln : (ln : Int) ≤ 9223372036854775807) (ht : Table W) :
    Calls Tryd.prog 7 #[.agg #[.int .i64 kind, .int .i64 A, .int .i64 B, .int .i64 C, .int .i64 room, .slice la ln lc, .int .i64 v0, .int .i64 v1, .int .i64 v2, .int .i64 v3, .int .i64 v4, .int .i64 v5, .int .i64 v6, .int .i64 v7, .int .u64 (s : Int)], pktVal p, .int .i64 now, .int .i64 more] W fun e V => e = .returned (.bool true) ∧ Below W.heap.size W V := by
  obtain ⟨pf, ps, pn, pd, pz, pt, pa, pm⟩ := p
  have HL := Lib.hid hL
  have HT := Lib.hid ht
  clear hL ht
  go_enter Tryd.func7, Tryd.ntmps7
  go_wp2_with fail
  refine (head_ok _ (table_below HT.out (by (repeat (first | exact Below.refl _ _ | refine below_drawnN ?_ _ | refine below_drawn ?_ | refine below_new ?_ _))))).mono ?_
  rintro e w1 ⟨rfl, hb⟩
  have HBE_w1 : RowKit.Hid (Below W.heap.size W w1) := Lib.hid (below_on (by (repeat (first | exact Below.refl _ _ | refine below_drawnN ?_ _ | refine below_drawn ?_ | refine below_new ?_ _))) hb)
  have Hq_w1 : RowKit.Hid (Blk w1 W.heap.size [.int .i64 kind, .int .i64 A, .int .i64 B, .int .i64 C, .int .i64 room, .slice la ln lc, .int .i64 v0, .int .i64 v1, .int .i64 v2, .int .i64 v3, .int .i64 v4, .int .i64 v5, .int .i64 v6, .int .i64 v7, .int .u64 (s : Int)]) := Lib.hid (((Blk.new W #[.int .i64 kind, .int .i64 A, .int .i64 B, .int .i64 C, .int .i64 room, .slice la ln lc, .int .i64 v0, .int .i64 v1, .int .i64 v2, .int .i64 v3, .int .i64 v4, .int .i64 v5, .int .i64 v6, .int .i64 v7, .int .u64 (s : Int)] 28).below (by (repeat (first | exact Below.refl _ _ | refine below_drawnN ?_ _ | refine below_drawn ?_ | refine below_new ?_ _)))).below hb)
  have ltq := Hq_w1.out.lt
  have Hp_w1 : RowKit.Hid (Blk w1 (W.heap.size + 1) [.int .i64 pf, .int .i64 ps, .int .i64 pn, .int .i64 pd, .int .i64 pz, .int .i64 pt, .bool pa, .bool pm]) := Lib.hid (((blk_new_at (W.alloc _) #[.int .i64 pf, .int .i64 ps, .int .i64 pn, .int .i64 pd, .int .i64 pz, .int .i64 pt, .bool pa, .bool pm] 35 (by simp)).below (by (repeat (first | exact Below.refl _ _ | refine below_drawnN ?_ _ | refine below_drawn ?_ | refine below_new ?_ _)))).below hb)
  have p7 := Hp_w1.out.cell 7 rfl
  have ltp := Hp_w1.out.lt
  clear hb
  have fzp := Hp_w1.out.frozen ⟨W.heap.size + 1, 7, none⟩ rfl
  have h_q : Blk (w1.setCell ⟨W.heap.size + 1, 7, none⟩ (.bool false)) W.heap.size [.int .i64 kind, .int .i64 A, .int .i64 B, .int .i64 C, .int .i64 room, .slice la ln lc, .int .i64 v0, .int .i64 v1, .int .i64 v2, .int .i64 v3, .int .i64 v4, .int .i64 v5, .int .i64 v6, .int .i64 v7, .int .u64 (s : Int)] := (Hq_w1.out.kept (grown_set w1 ⟨W.heap.size + 1, 7, none⟩ (.bool false)) (by first | (simp; done) | (simp; omega)))
  have h_p : Blk (w1.setCell ⟨W.heap.size + 1, 7, none⟩ (.bool false)) (W.heap.size + 1) [.int .i64 pf, .int .i64 ps, .int .i64 pn, .int .i64 pd, .int .i64 pz, .int .i64 pt, .bool pa, .bool false] := (Hp_w1.out.set 7 (.bool false))
  have h_b : Below W.heap.size W (w1.setCell ⟨W.heap.size + 1, 7, none⟩ (.bool false)) := (below_set HBE_w1.out (by first | (simp; done) | (simp; omega)) _)
  have H_q := Lib.hid h_q
  have H_b := Lib.hid h_b
  have H_p := Lib.hid h_p
  clear h_q h_b h_p
  go_wp2_with (refine wpList_load_mid rfl 28 _ rfl W.heap.size 0 rfl [.int .i64 kind, .int .i64 A, .int .i64 B, .int .i64 C, .int .i64 room, .slice la ln lc, .int .i64 v0, .int .i64 v1, .int .i64 v2, .int .i64 v3, .int .i64 v4, .int .i64 v5, .int .i64 v6, .int .i64 v7, .int .u64 (s : Int)] _ H_q.out.range Tryd.underlying28 rfl (by kernel_rfl) ?_)
  obtain ⟨w1s, hw⟩ : ∃ V, (w1.setCell ⟨W.heap.size + 1, 7, none⟩ (.bool false)) = V := ⟨_, rfl⟩
  rw [hw] at H_q
  rw [hw] at H_b
  rw [hw] at H_p
  rw [hw]
  clear hw
  have HBE_w1s := H_b
  have Hq_w1s := H_q
  have Hp_w1s := H_p
  clear ltq p7 ltp H_q H_b H_p HBE_w1 Hq_w1 Hp_w1 fzp
  have HL1 := Lib.hid (HL.out.below HBE_w1s.out)
  refine (usable_any kind A B C room la ln lc v0 v1 v2 v3 v4 v5 v6 v7 s w1s HL1.out hln).mono ?_
  rintro e w2 ⟨⟨b, rfl, hus⟩, hb⟩
  have HUS := Lib.hid hus
  have HB12 := Lib.hid hb
  clear hus
  have HBE_w2 : RowKit.Hid (Below W.heap.size W w2) := Lib.hid (below_on (by repeat (first | exact HBE_w1s.out | refine below_drawnN ?_ _ | refine below_drawn ?_ | refine below_new ?_ _)) hb)
  have Hq_w2 : RowKit.Hid (Blk w2 W.heap.size [.int .i64 kind, .int .i64 A, .int .i64 B, .int .i64 C, .int .i64 room, .slice la ln lc, .int .i64 v0, .int .i64 v1, .int .i64 v2, .int .i64 v3, .int .i64 v4, .int .i64 v5, .int .i64 v6, .int .i64 v7, .int .u64 (s : Int)]) := Lib.hid ((Hq_w1s.out.below (by (repeat (first | exact Below.refl _ _ | refine below_drawnN ?_ _ | refine below_drawn ?_ | refine below_new ?_ _)))).below hb)
  have Hp_w2 : RowKit.Hid (Blk w2 (W.heap.size + 1) [.int .i64 pf, .int .i64 ps, .int .i64 pn, .int .i64 pd, .int .i64 pz, .int .i64 pt, .bool pa, .bool false]) := Lib.hid ((Hp_w1s.out.below (by (repeat (first | exact Below.refl _ _ | refine below_drawnN ?_ _ | refine below_drawn ?_ | refine below_new ?_ _)))).below hb)
  clear hb HBE_w1s Hq_w1s Hp_w1s
  have q0 := Hq_w2.out.cell 0 rfl
  have q1 := Hq_w2.out.cell 1 rfl
  have q2 := Hq_w2.out.cell 2 rfl
  have q3 := Hq_w2.out.cell 3 rfl
  have q4 := Hq_w2.out.cell 4 rfl
  have q5 := Hq_w2.out.cell 5 rfl
  have q6 := Hq_w2.out.cell 6 rfl
  have q7 := Hq_w2.out.cell 7 rfl
  have q8 := Hq_w2.out.cell 8 rfl
  have q9 := Hq_w2.out.cell 9 rfl
  have q10 := Hq_w2.out.cell 10 rfl
  have q11 := Hq_w2.out.cell 11 rfl
  have q12 := Hq_w2.out.cell 12 rfl
  have q13 := Hq_w2.out.cell 13 rfl
  have q14 := Hq_w2.out.cell 14 rfl
  have ltq := Hq_w2.out.lt
  have p0 := Hp_w2.out.cell 0 rfl
  have p1 := Hp_w2.out.cell 1 rfl
  have p2 := Hp_w2.out.cell 2 rfl
  have p3 := Hp_w2.out.cell 3 rfl
  have p4 := Hp_w2.out.cell 4 rfl
  have p5 := Hp_w2.out.cell 5 rfl
  have p6 := Hp_w2.out.cell 6 rfl
  have p7 := Hp_w2.out.cell 7 rfl
  have ltp := Hp_w2.out.lt
  cases b with
  | false =>
    go_wp2
    try (go_quiet (fail))
    go_wp2
    go_ret
    exact ⟨rfl, (by repeat (first | exact HBE_w2.out | refine below_drawnN ?_ _ | refine below_drawn ?_ | refine below_new ?_ _ | refine below_set ?_ (by first | (simp; done) | (simp; omega)) _))⟩
  | true =>
    obtain ⟨rfl, rfl, rfl, rfl, rfl, rfl, rfl, rfl, ad, a, n, c, xs, rfl, hc, hr, hn, hq⟩ := HUS.out rfl
    have hlen := hr.1
    subst hlen
    have HQO := Lib.hid hq
    have had : w2.cell? ad = some (.slice a xs.length c) := below_cell_of HB12.out hc
    have lthad := World.block_lt_of_cell? _ _ had
    have HHH_w2 : RowKit.Hid (HoldsL w2 ad xs) := Lib.hid (HoldsL.below ⟨a, c, hc, hr⟩ HB12.out)
    have HTT_w2 : RowKit.Hid (Table w2) := Lib.hid (table_below HT.out HBE_w2.out)
    clear hc hr hq HUS HB12 HL1
    cases hok : decide (⟨pf, ps, pn, pd, pz, pt, pa, false⟩ : Ea.Pkt).ok with
    | false =>
      have HOK := Lib.hid hok
      clear hok
      go_wp2_with fail
      refine (packet_any (⟨pf, ps, pn, pd, pz, pt, pa, false⟩ : Ea.Pkt) _).mono ?_
      rw [HOK.out]
      rintro e w3 ⟨rfl, hb⟩
      have HBE_w3 : RowKit.Hid (Below W.heap.size W w3) := Lib.hid (below_on (by repeat (first | exact HBE_w2.out | refine below_drawnN ?_ _ | refine below_drawn ?_ | refine below_new ?_ _)) hb)
      have Hq_w3 : RowKit.Hid (Blk w3 W.heap.size [.int .i64 2, .int .i64 A, .int .i64 B, .int .i64 C, .int .i64 room, .slice (some ad) 1 lc, .int .i64 v0, .int .i64 0, .int .i64 0, .int .i64 0, .int .i64 0, .int .i64 0, .int .i64 0, .int .i64 v7, .int .u64 (s : Int)]) := Lib.hid ((Hq_w2.out.below (by (repeat (first | exact Below.refl _ _ | refine below_drawnN ?_ _ | refine below_drawn ?_ | refine below_new ?_ _)))).below hb)
      have Hp_w3 : RowKit.Hid (Blk w3 (W.heap.size + 1) [.int .i64 pf, .int .i64 ps, .int .i64 pn, .int .i64 pd, .int .i64 pz, .int .i64 pt, .bool pa, .bool false]) := Lib.hid ((Hp_w2.out.below (by (repeat (first | exact Below.refl _ _ | refine below_drawnN ?_ _ | refine below_drawn ?_ | refine below_new ?_ _)))).below hb)
      have had_n : w3.cell? ad = some (.slice a xs.length c) := below_cell_of hb (below_cell_of (by (repeat (first | exact Below.refl _ _ | refine below_drawnN ?_ _ | refine below_drawn ?_ | refine below_new ?_ _))) had)
      have HHH_w3 : RowKit.Hid (HoldsL w3 ad xs) := Lib.hid ((HHH_w2.out.below (by (repeat (first | exact Below.refl _ _ | refine below_drawnN ?_ _ | refine below_drawn ?_ | refine below_new ?_ _)))).below hb)
      have HTT_w3 : RowKit.Hid (Table w3) := Lib.hid (table_below (table_below HTT_w2.out (by (repeat (first | exact Below.refl _ _ | refine below_drawnN ?_ _ | refine below_drawn ?_ | refine below_new ?_ _)))) hb)
      clear hb q0 q1 q2 q3 q4 q5 q6 q7 q8 q9 q10 q11 q12 q13 q14 ltq p0 p1 p2 p3 p4 p5 p6 p7 ltp had lthad HBE_w2 Hq_w2 Hp_w2 HHH_w2 HTT_w2
      have had := had_n
      clear had_n
      have lthad := World.block_lt_of_cell? _ _ had
      have q0 := Hq_w3.out.cell 0 rfl
      have q1 := Hq_w3.out.cell 1 rfl
      have q2 := Hq_w3.out.cell 2 rfl
      have q3 := Hq_w3.out.cell 3 rfl
      have q4 := Hq_w3.out.cell 4 rfl
      have q5 := Hq_w3.out.cell 5 rfl
      have q6 := Hq_w3.out.cell 6 rfl
      have q7 := Hq_w3.out.cell 7 rfl
      have q8 := Hq_w3.out.cell 8 rfl
      have q9 := Hq_w3.out.cell 9 rfl
      have q10 := Hq_w3.out.cell 10 rfl
      have q11 := Hq_w3.out.cell 11 rfl
      have q12 := Hq_w3.out.cell 12 rfl
      have q13 := Hq_w3.out.cell 13 rfl
      have q14 := Hq_w3.out.cell 14 rfl
      have ltq := Hq_w3.out.lt
      have p0 := Hp_w3.out.cell 0 rfl
      have p1 := Hp_w3.out.cell 1 rfl
      have p2 := Hp_w3.out.cell 2 rfl
      have p3 := Hp_w3.out.cell 3 rfl
      have p4 := Hp_w3.out.cell 4 rfl
      have p5 := Hp_w3.out.cell 5 rfl
      have p6 := Hp_w3.out.cell 6 rfl
      have p7 := Hp_w3.out.cell 7 rfl
      have ltp := Hp_w3.out.lt
      go_wp2
      try (go_quiet (fail))
      go_wp2
      go_ret
      exact ⟨rfl, (by repeat (first | exact HBE_w3.out | refine below_drawnN ?_ _ | refine below_drawn ?_ | refine below_new ?_ _ | refine below_set ?_ (by first | (simp; done) | (simp; omega)) _))⟩
    | true =>
      have HOKD := Lib.hid hok
      have HOKp := Lib.hid (of_decide_eq_true hok)
      clear hok
      cases htm : decide (0 ≤ now ∧ now ≤ 10000000) with
      | false =>
        have HTM := Lib.hid htm
        clear htm
        go_wp2_with fail
        refine (packet_any (⟨pf, ps, pn, pd, pz, pt, pa, false⟩ : Ea.Pkt) _).mono ?_
        rw [HOKD.out]
        rintro e w3 ⟨rfl, hb⟩
        have HBE_w3 : RowKit.Hid (Below W.heap.size W w3) := Lib.hid (below_on (by repeat (first | exact HBE_w2.out | refine below_drawnN ?_ _ | refine below_drawn ?_ | refine below_new ?_ _)) hb)
        have Hq_w3 : RowKit.Hid (Blk w3 W.heap.size [.int .i64 2, .int .i64 A, .int .i64 B, .int .i64 C, .int .i64 room, .slice (some ad) 1 lc, .int .i64 v0, .int .i64 0, .int .i64 0, .int .i64 0, .int .i64 0, .int .i64 0, .int .i64 0, .int .i64 v7, .int .u64 (s : Int)]) := Lib.hid ((Hq_w2.out.below (by (repeat (first | exact Below.refl _ _ | refine below_drawnN ?_ _ | refine below_drawn ?_ | refine below_new ?_ _)))).below hb)
        have Hp_w3 : RowKit.Hid (Blk w3 (W.heap.size + 1) [.int .i64 pf, .int .i64 ps, .int .i64 pn, .int .i64 pd, .int .i64 pz, .int .i64 pt, .bool pa, .bool false]) := Lib.hid ((Hp_w2.out.below (by (repeat (first | exact Below.refl _ _ | refine below_drawnN ?_ _ | refine below_drawn ?_ | refine below_new ?_ _)))).below hb)
        have had_n : w3.cell? ad = some (.slice a xs.length c) := below_cell_of hb (below_cell_of (by (repeat (first | exact Below.refl _ _ | refine below_drawnN ?_ _ | refine below_drawn ?_ | refine below_new ?_ _))) had)
        have HHH_w3 : RowKit.Hid (HoldsL w3 ad xs) := Lib.hid ((HHH_w2.out.below (by (repeat (first | exact Below.refl _ _ | refine below_drawnN ?_ _ | refine below_drawn ?_ | refine below_new ?_ _)))).below hb)
        have HTT_w3 : RowKit.Hid (Table w3) := Lib.hid (table_below (table_below HTT_w2.out (by (repeat (first | exact Below.refl _ _ | refine below_drawnN ?_ _ | refine below_drawn ?_ | refine below_new ?_ _)))) hb)
        clear hb q0 q1 q2 q3 q4 q5 q6 q7 q8 q9 q10 q11 q12 q13 q14 ltq p0 p1 p2 p3 p4 p5 p6 p7 ltp had lthad HBE_w2 Hq_w2 Hp_w2 HHH_w2 HTT_w2
        have had := had_n
        clear had_n
        have lthad := World.block_lt_of_cell? _ _ had
        have q0 := Hq_w3.out.cell 0 rfl
        have q1 := Hq_w3.out.cell 1 rfl
        have q2 := Hq_w3.out.cell 2 rfl
        have q3 := Hq_w3.out.cell 3 rfl
        have q4 := Hq_w3.out.cell 4 rfl
        have q5 := Hq_w3.out.cell 5 rfl
        have q6 := Hq_w3.out.cell 6 rfl
        have q7 := Hq_w3.out.cell 7 rfl
        have q8 := Hq_w3.out.cell 8 rfl
        have q9 := Hq_w3.out.cell 9 rfl
        have q10 := Hq_w3.out.cell 10 rfl
        have q11 := Hq_w3.out.cell 11 rfl
        have q12 := Hq_w3.out.cell 12 rfl
        have q13 := Hq_w3.out.cell 13 rfl
        have q14 := Hq_w3.out.cell 14 rfl
        have ltq := Hq_w3.out.lt
        have p0 := Hp_w3.out.cell 0 rfl
        have p1 := Hp_w3.out.cell 1 rfl
        have p2 := Hp_w3.out.cell 2 rfl
        have p3 := Hp_w3.out.cell 3 rfl
        have p4 := Hp_w3.out.cell 4 rfl
        have p5 := Hp_w3.out.cell 5 rfl
        have p6 := Hp_w3.out.cell 6 rfl
        have p7 := Hp_w3.out.cell 7 rfl
        have ltp := Hp_w3.out.lt
        go_wp2_with fail
        refine (time_any now _).mono ?_
        rw [HTM.out]
        rintro e w4 ⟨rfl, rfl⟩
        go_wp2
        try (go_quiet (fail))
        go_wp2
        go_ret
        exact ⟨rfl, (by repeat (first | exact HBE_w3.out | refine below_drawnN ?_ _ | refine below_drawn ?_ | refine below_new ?_ _ | refine below_set ?_ (by first | (simp; done) | (simp; omega)) _))⟩
      | true =>
        obtain ⟨n0, n1⟩ := of_decide_eq_true htm
        have HTM := Lib.hid htm
        clear htm
        go_wp2_with fail
        refine (packet_any (⟨pf, ps, pn, pd, pz, pt, pa, false⟩ : Ea.Pkt) _).mono ?_
        rw [HOKD.out]
        rintro e w3 ⟨rfl, hb⟩
        have HBE_w3 : RowKit.Hid (Below W.heap.size W w3) := Lib.hid (below_on (by repeat (first | exact HBE_w2.out | refine below_drawnN ?_ _ | refine below_drawn ?_ | refine below_new ?_ _)) hb)
        have Hq_w3 : RowKit.Hid (Blk w3 W.heap.size [.int .i64 2, .int .i64 A, .int .i64 B, .int .i64 C, .int .i64 room, .slice (some ad) 1 lc, .int .i64 v0, .int .i64 0, .int .i64 0, .int .i64 0, .int .i64 0, .int .i64 0, .int .i64 0, .int .i64 v7, .int .u64 (s : Int)]) := Lib.hid ((Hq_w2.out.below (by (repeat (first | exact Below.refl _ _ | refine below_drawnN ?_ _ | refine below_drawn ?_ | refine below_new ?_ _)))).below hb)
        have Hp_w3 : RowKit.Hid (Blk w3 (W.heap.size + 1) [.int .i64 pf, .int .i64 ps, .int .i64 pn, .int .i64 pd, .int .i64 pz, .int .i64 pt, .bool pa, .bool false]) := Lib.hid ((Hp_w2.out.below (by (repeat (first | exact Below.refl _ _ | refine below_drawnN ?_ _ | refine below_drawn ?_ | refine below_new ?_ _)))).below hb)
        have had_n : w3.cell? ad = some (.slice a xs.length c) := below_cell_of hb (below_cell_of (by (repeat (first | exact Below.refl _ _ | refine below_drawnN ?_ _ | refine below_drawn ?_ | refine below_new ?_ _))) had)
        have HHH_w3 : RowKit.Hid (HoldsL w3 ad xs) := Lib.hid ((HHH_w2.out.below (by (repeat (first | exact Below.refl _ _ | refine below_drawnN ?_ _ | refine below_drawn ?_ | refine below_new ?_ _)))).below hb)
        have HTT_w3 : RowKit.Hid (Table w3) := Lib.hid (table_below (table_below HTT_w2.out (by (repeat (first | exact Below.refl _ _ | refine below_drawnN ?_ _ | refine below_drawn ?_ | refine below_new ?_ _)))) hb)
        clear hb q0 q1 q2 q3 q4 q5 q6 q7 q8 q9 q10 q11 q12 q13 q14 ltq p0 p1 p2 p3 p4 p5 p6 p7 ltp had lthad HBE_w2 Hq_w2 Hp_w2 HHH_w2 HTT_w2
        have had := had_n
        clear had_n
        have lthad := World.block_lt_of_cell? _ _ had
        have q0 := Hq_w3.out.cell 0 rfl
        have q1 := Hq_w3.out.cell 1 rfl
        have q2 := Hq_w3.out.cell 2 rfl
        have q3 := Hq_w3.out.cell 3 rfl
        have q4 := Hq_w3.out.cell 4 rfl
        have q5 := Hq_w3.out.cell 5 rfl
        have q6 := Hq_w3.out.cell 6 rfl
        have q7 := Hq_w3.out.cell 7 rfl
        have q8 := Hq_w3.out.cell 8 rfl
        have q9 := Hq_w3.out.cell 9 rfl
        have q10 := Hq_w3.out.cell 10 rfl
        have q11 := Hq_w3.out.cell 11 rfl
        have q12 := Hq_w3.out.cell 12 rfl
        have q13 := Hq_w3.out.cell 13 rfl
        have q14 := Hq_w3.out.cell 14 rfl
        have ltq := Hq_w3.out.lt
        have p0 := Hp_w3.out.cell 0 rfl
        have p1 := Hp_w3.out.cell 1 rfl
        have p2 := Hp_w3.out.cell 2 rfl
        have p3 := Hp_w3.out.cell 3 rfl
        have p4 := Hp_w3.out.cell 4 rfl
        have p5 := Hp_w3.out.cell 5 rfl
        have p6 := Hp_w3.out.cell 6 rfl
        have p7 := Hp_w3.out.cell 7 rfl
        have ltp := Hp_w3.out.lt
        clear HOKD
        go_wp2_with fail
        refine (time_any now _).mono ?_
        rw [HTM.out]
        rintro e wt ⟨rfl, he⟩
        obtain rfl : w3 = wt := he.symm
        clear HTM
        by_cases c1 : now < v7
        · have dc1 : decide (now < v7) = true := decide_eq_true c1
          go_wp2
          try (go_quiet (fail))
          go_wp2
          go_ret
          exact ⟨rfl, (by repeat (first | exact HBE_w3.out | refine below_drawnN ?_ _ | refine below_drawn ?_ | refine below_new ?_ _ | refine below_set ?_ (by first | (simp; done) | (simp; omega)) _))⟩
        have dc1 : decide (now < v7) = false := decide_eq_false c1
        by_cases c2 : (xs.length : Int) = room
        · have dc2 : ((xs.length : Int) == room) = true := by simp [c2]
          have Hc2 := Lib.hid c2
          clear c2
          go_wp2
          try (go_quiet (fail))
          go_wp2
          go_ret
          exact ⟨rfl, (by repeat (first | exact HBE_w3.out | refine below_drawnN ?_ _ | refine below_drawn ?_ | refine below_new ?_ _ | refine below_set ?_ (by first | (simp; done) | (simp; omega)) _))⟩
        have dc2 : ((xs.length : Int) == room) = false := by simp [c2]
        by_cases c3 : more < 0
        · have dc3 : decide (more < 0) = true := decide_eq_true c3
          go_wp2
          try (go_quiet (fail))
          go_wp2
          go_ret
          exact ⟨rfl, (by repeat (first | exact HBE_w3.out | refine below_drawnN ?_ _ | refine below_drawn ?_ | refine below_new ?_ _ | refine below_set ?_ (by first | (simp; done) | (simp; omega)) _))⟩
        have dc3 : decide (more < 0) = false := decide_eq_false c3
        by_cases c4 : 512000 < more
        · have dc4 : decide (512000 < more) = true := decide_eq_true c4
          go_wp2
          try (go_quiet (fail))
          go_wp2
          go_ret
          exact ⟨rfl, (by repeat (first | exact HBE_w3.out | refine below_drawnN ?_ _ | refine below_drawn ?_ | refine below_new ?_ _ | refine below_set ?_ (by first | (simp; done) | (simp; omega)) _))⟩
        have dc4 : decide (512000 < more) = false := decide_eq_false c4
        have hxl := HQO.out.short
        have ha2 := HQO.out.ab
        have hw0 := HQO.out.w0
        have hw1 := HQO.out.w1
        obtain ⟨what, s1, hv⟩ : ∃ a b, Ea.verdict A B xs.length room (Ea.avg v0 xs.length (2 ^ C.toNat)) s = (a, b) := ⟨_, _, rfl⟩
        have hfa := fun V h1 h2 => fate_any A B C room ad lc v0 v7 s xs V h1 HQO.out h2 (⟨pf, ps, pn, pd, pz, pt, pa, false⟩ : Ea.Pkt) HOKp.out now (by omega) n1 what s1 hv
        have key : ∀ vh, v0 ≤ vh → vh ≤ 512000 → ∃ fb, (∀ V, HoldsL V ad xs → Table V → Calls Tryd.prog 12 #[.agg #[.int .i64 2, .int .i64 A, .int .i64 B, .int .i64 C, .int .i64 room, .slice (some ad) 1 lc, .int .i64 vh, .int .i64 0, .int .i64 0, .int .i64 0, .int .i64 0, .int .i64 0, .int .i64 0, .int .i64 v7, .int .u64 (s : Int)], pktVal (⟨pf, ps, pn, pd, pz, pt, pa, false⟩ : Ea.Pkt), .int .i64 now] V fun e V' => e = .returned (.int .i64 fb) ∧ Below V.heap.size V V') ∧ (Ea.fated what pa false = 0 ∨ 0 < fb) ∧ 0 ≤ fb := fun vh g1 g2 => rise_key A B C room ad lc v0 v7 s xs HQO.out c2 (⟨pf, ps, pn, pd, pz, pt, pa, false⟩ : Ea.Pkt) HOKp.out now (by omega) n1 what s1 hv vh g1 g2 rfl
        have hfn : 0 ≤ Ea.fated what pa false := fated_nonneg _ _ _
        obtain ⟨fa, efa⟩ : ∃ x, Ea.fated what pa false = x := ⟨_, rfl⟩
        simp only [efa] at hfa hfn key
        have HFA := Lib.hid hfa
        have HKEY := Lib.hid key
        clear hfa hv efa key c2
        go_wp2
        go_quiet (fail)
        obtain ⟨w4, hd⟩ : ∃ V, (w3.drewN nq) = V := ⟨_, rfl⟩
        have HBE_w4 : RowKit.Hid (Below W.heap.size W w4) := Lib.hid (hd ▸ (show Below W.heap.size W (w3.drewN nq) from below_drawnN HBE_w3.out _))
        have Hq_w4 : RowKit.Hid (Blk w4 W.heap.size [.int .i64 2, .int .i64 A, .int .i64 B, .int .i64 C, .int .i64 room, .slice (some ad) 1 lc, .int .i64 v0, .int .i64 0, .int .i64 0, .int .i64 0, .int .i64 0, .int .i64 0, .int .i64 0, .int .i64 v7, .int .u64 (s : Int)]) := Lib.hid (hd ▸ (show Blk (w3.drewN nq) W.heap.size [.int .i64 2, .int .i64 A, .int .i64 B, .int .i64 C, .int .i64 room, .slice (some ad) 1 lc, .int .i64 v0, .int .i64 0, .int .i64 0, .int .i64 0, .int .i64 0, .int .i64 0, .int .i64 0, .int .i64 v7, .int .u64 (s : Int)] from Hq_w3.out))
        have Hp_w4 : RowKit.Hid (Blk w4 (W.heap.size + 1) [.int .i64 pf, .int .i64 ps, .int .i64 pn, .int .i64 pd, .int .i64 pz, .int .i64 pt, .bool pa, .bool false]) := Lib.hid (hd ▸ (show Blk (w3.drewN nq) (W.heap.size + 1) [.int .i64 pf, .int .i64 ps, .int .i64 pn, .int .i64 pd, .int .i64 pz, .int .i64 pt, .bool pa, .bool false] from Hp_w3.out))
        have had_n : w4.cell? ad = some (.slice a xs.length c) := hd ▸ (show (w3.drewN nq).cell? ad = some (.slice a xs.length c) from had)
        have HHH_w4 : RowKit.Hid (HoldsL w4 ad xs) := Lib.hid (hd ▸ (show HoldsL (w3.drewN nq) ad xs from HHH_w3.out))
        have HTT_w4 : RowKit.Hid (Table w4) := Lib.hid (hd ▸ (show Table (w3.drewN nq) from HTT_w3.out))
        rw [hd]
        clear hd had lthad q0 q1 q2 q3 q4 q5 q6 q7 q8 q9 q10 q11 q12 q13 q14 ltq p0 p1 p2 p3 p4 p5 p6 p7 ltp HBE_w3 Hq_w3 Hp_w3 HHH_w3 HTT_w3
        have had := had_n
        clear had_n
        have lthad := World.block_lt_of_cell? _ _ had
        have q0 := Hq_w4.out.cell 0 rfl
        have q1 := Hq_w4.out.cell 1 rfl
        have q2 := Hq_w4.out.cell 2 rfl
        have q3 := Hq_w4.out.cell 3 rfl
        have q4 := Hq_w4.out.cell 4 rfl
        have q5 := Hq_w4.out.cell 5 rfl
        have q6 := Hq_w4.out.cell 6 rfl
        have q7 := Hq_w4.out.cell 7 rfl
        have q8 := Hq_w4.out.cell 8 rfl
        have q9 := Hq_w4.out.cell 9 rfl
        have q10 := Hq_w4.out.cell 10 rfl
        have q11 := Hq_w4.out.cell 11 rfl
        have q12 := Hq_w4.out.cell 12 rfl
        have q13 := Hq_w4.out.cell 13 rfl
        have q14 := Hq_w4.out.cell 14 rfl
        have ltq := Hq_w4.out.lt
        have p0 := Hp_w4.out.cell 0 rfl
        have p1 := Hp_w4.out.cell 1 rfl
        have p2 := Hp_w4.out.cell 2 rfl
        have p3 := Hp_w4.out.cell 3 rfl
        have p4 := Hp_w4.out.cell 4 rfl
        have p5 := Hp_w4.out.cell 5 rfl
        have p6 := Hp_w4.out.cell 6 rfl
        have p7 := Hp_w4.out.cell 7 rfl
        have ltp := Hp_w4.out.lt
        by_cases h5 : 512000 ≤ v0 + more
        · obtain ⟨fb, hfb, hab, hb0⟩ := HKEY.out 512000 (by omega) (by omega)
          have HFB := Lib.hid hfb
          have HAB := Lib.hid hab
          clear hfb hab HKEY
          go_wp2_with (first | (refine wpList_load_mid rfl 28 _ rfl W.heap.size 0 rfl [.int .i64 2, .int .i64 A, .int .i64 B, .int .i64 C, .int .i64 room, .slice (some ad) 1 lc, .int .i64 v0, .int .i64 0, .int .i64 0, .int .i64 0, .int .i64 0, .int .i64 0, .int .i64 0, .int .i64 v7, .int .u64 (s : Int)] _ (Hq_w4.out.below (by (repeat (first | exact Below.refl _ _ | refine below_drawnN ?_ _ | refine below_drawn ?_ | refine below_new ?_ _)))).range Tryd.underlying28 rfl (by kernel_rfl) ?_) | (refine wpList_store_new rfl 28 _ _ rfl _ #[.int .i64 2, .int .i64 A, .int .i64 B, .int .i64 C, .int .i64 room, .slice (some ad) 1 lc, .int .i64 v0, .int .i64 0, .int .i64 0, .int .i64 0, .int .i64 0, .int .i64 0, .int .i64 0, .int .i64 v7, .int .u64 (s : Int)] rfl rfl (by kernel_rfl) rfl rfl ?_) | (refine wpList_load_mid rfl 35 _ rfl (W.heap.size + 1) 0 rfl [.int .i64 pf, .int .i64 ps, .int .i64 pn, .int .i64 pd, .int .i64 pz, .int .i64 pt, .bool pa, .bool false] _ (Hp_w4.out.below (by (repeat (first | exact Below.refl _ _ | refine below_drawnN ?_ _ | refine below_drawn ?_ | refine below_new ?_ _)))).range Tryd.underlying35 rfl (by kernel_rfl) ?_))
          refine (HFA.out _ (HHH_w4.out.below (by exact (by (repeat (first | exact Below.refl _ _ | refine below_drawnN ?_ _ | refine below_drawn ?_ | refine below_new ?_ _))))) (table_below HTT_w4.out (by (repeat (first | exact Below.refl _ _ | refine below_drawnN ?_ _ | refine below_drawn ?_ | refine below_new ?_ _))))).mono ?_
          rintro e w5 ⟨rfl, hb⟩
          have HBE_w5 : RowKit.Hid (Below W.heap.size W w5) := Lib.hid (below_on (by repeat (first | exact HBE_w4.out | refine below_drawnN ?_ _ | refine below_drawn ?_ | refine below_new ?_ _)) hb)
          have Hq_w5 : RowKit.Hid (Blk w5 W.heap.size [.int .i64 2, .int .i64 A, .int .i64 B, .int .i64 C, .int .i64 room, .slice (some ad) 1 lc, .int .i64 v0, .int .i64 0, .int .i64 0, .int .i64 0, .int .i64 0, .int .i64 0, .int .i64 0, .int .i64 v7, .int .u64 (s : Int)]) := Lib.hid ((Hq_w4.out.below (by (repeat (first | exact Below.refl _ _ | refine below_drawnN ?_ _ | refine below_drawn ?_ | refine below_new ?_ _)))).below hb)
          have Hp_w5 : RowKit.Hid (Blk w5 (W.heap.size + 1) [.int .i64 pf, .int .i64 ps, .int .i64 pn, .int .i64 pd, .int .i64 pz, .int .i64 pt, .bool pa, .bool false]) := Lib.hid ((Hp_w4.out.below (by (repeat (first | exact Below.refl _ _ | refine below_drawnN ?_ _ | refine below_drawn ?_ | refine below_new ?_ _)))).below hb)
          have had_n : w5.cell? ad = some (.slice a xs.length c) := below_cell_of hb (below_cell_of (by (repeat (first | exact Below.refl _ _ | refine below_drawnN ?_ _ | refine below_drawn ?_ | refine below_new ?_ _))) had)
          have HHH_w5 : RowKit.Hid (HoldsL w5 ad xs) := Lib.hid ((HHH_w4.out.below (by (repeat (first | exact Below.refl _ _ | refine below_drawnN ?_ _ | refine below_drawn ?_ | refine below_new ?_ _)))).below hb)
          have HTT_w5 : RowKit.Hid (Table w5) := Lib.hid (table_below (table_below HTT_w4.out (by (repeat (first | exact Below.refl _ _ | refine below_drawnN ?_ _ | refine below_drawn ?_ | refine below_new ?_ _)))) hb)
          have Hm_w5 : RowKit.Hid (Blk w5 w4.heap.size [.int .i64 2, .int .i64 A, .int .i64 B, .int .i64 C, .int .i64 room, .slice (some ad) 1 lc, .int .i64 512000, .int .i64 0, .int .i64 0, .int .i64 0, .int .i64 0, .int .i64 0, .int .i64 0, .int .i64 v7, .int .u64 (s : Int)]) := Lib.hid (((blk_new_at w4 #[.int .i64 2, .int .i64 A, .int .i64 B, .int .i64 C, .int .i64 room, .slice (some ad) 1 lc, .int .i64 512000, .int .i64 0, .int .i64 0, .int .i64 0, .int .i64 0, .int .i64 0, .int .i64 0, .int .i64 v7, .int .u64 (s : Int)] 28 rfl).below (by (repeat (first | exact Below.refl _ _ | refine below_drawnN ?_ _ | refine below_drawn ?_ | refine below_new ?_ _)))).below hb)
          clear hb had lthad q0 q1 q2 q3 q4 q5 q6 q7 q8 q9 q10 q11 q12 q13 q14 ltq p0 p1 p2 p3 p4 p5 p6 p7 ltp HBE_w4 Hq_w4 Hp_w4 HHH_w4 HTT_w4
          have had := had_n
          clear had_n
          have lthad := World.block_lt_of_cell? _ _ had
          have q0 := Hq_w5.out.cell 0 rfl
          have q1 := Hq_w5.out.cell 1 rfl
          have q2 := Hq_w5.out.cell 2 rfl
          have q3 := Hq_w5.out.cell 3 rfl
          have q4 := Hq_w5.out.cell 4 rfl
          have q5 := Hq_w5.out.cell 5 rfl
          have q6 := Hq_w5.out.cell 6 rfl
          have q7 := Hq_w5.out.cell 7 rfl
          have q8 := Hq_w5.out.cell 8 rfl
          have q9 := Hq_w5.out.cell 9 rfl
          have q10 := Hq_w5.out.cell 10 rfl
          have q11 := Hq_w5.out.cell 11 rfl
          have q12 := Hq_w5.out.cell 12 rfl
          have q13 := Hq_w5.out.cell 13 rfl
          have q14 := Hq_w5.out.cell 14 rfl
          have ltq := Hq_w5.out.lt
          have p0 := Hp_w5.out.cell 0 rfl
          have p1 := Hp_w5.out.cell 1 rfl
          have p2 := Hp_w5.out.cell 2 rfl
          have p3 := Hp_w5.out.cell 3 rfl
          have p4 := Hp_w5.out.cell 4 rfl
          have p5 := Hp_w5.out.cell 5 rfl
          have p6 := Hp_w5.out.cell 6 rfl
          have p7 := Hp_w5.out.cell 7 rfl
          have ltp := Hp_w5.out.lt
          have ltm := Hm_w5.out.lt
          clear HFA
          go_wp2_with (first | (refine wpList_load_mid rfl 28 _ rfl w4.heap.size 0 rfl [.int .i64 2, .int .i64 A, .int .i64 B, .int .i64 C, .int .i64 room, .slice (some ad) 1 lc, .int .i64 512000, .int .i64 0, .int .i64 0, .int .i64 0, .int .i64 0, .int .i64 0, .int .i64 0, .int .i64 v7, .int .u64 (s : Int)] _ (Hm_w5.out.below (by (repeat (first | exact Below.refl _ _ | refine below_drawnN ?_ _ | refine below_drawn ?_ | refine below_new ?_ _)))).range Tryd.underlying28 rfl (by kernel_rfl) ?_) | (refine wpList_load_mid rfl 35 _ rfl (W.heap.size + 1) 0 rfl [.int .i64 pf, .int .i64 ps, .int .i64 pn, .int .i64 pd, .int .i64 pz, .int .i64 pt, .bool pa, .bool false] _ (Hp_w5.out.below (by (repeat (first | exact Below.refl _ _ | refine below_drawnN ?_ _ | refine below_drawn ?_ | refine below_new ?_ _)))).range Tryd.underlying35 rfl (by kernel_rfl) ?_))
          refine (HFB.out _ (HHH_w5.out.below (by exact (by (repeat (first | exact Below.refl _ _ | refine below_drawnN ?_ _ | refine below_drawn ?_ | refine below_new ?_ _))))) (table_below HTT_w5.out (by (repeat (first | exact Below.refl _ _ | refine below_drawnN ?_ _ | refine below_drawn ?_ | refine below_new ?_ _))))).mono ?_
          rintro e w6 ⟨rfl, hb⟩
          have HBE_w6 : RowKit.Hid (Below W.heap.size W w6) := Lib.hid (below_on (by repeat (first | exact HBE_w5.out | refine below_drawnN ?_ _ | refine below_drawn ?_ | refine below_new ?_ _)) hb)
          have Hq_w6 : RowKit.Hid (Blk w6 W.heap.size [.int .i64 2, .int .i64 A, .int .i64 B, .int .i64 C, .int .i64 room, .slice (some ad) 1 lc, .int .i64 v0, .int .i64 0, .int .i64 0, .int .i64 0, .int .i64 0, .int .i64 0, .int .i64 0, .int .i64 v7, .int .u64 (s : Int)]) := Lib.hid ((Hq_w5.out.below (by (repeat (first | exact Below.refl _ _ | refine below_drawnN ?_ _ | refine below_drawn ?_ | refine below_new ?_ _)))).below hb)
          have Hp_w6 : RowKit.Hid (Blk w6 (W.heap.size + 1) [.int .i64 pf, .int .i64 ps, .int .i64 pn, .int .i64 pd, .int .i64 pz, .int .i64 pt, .bool pa, .bool false]) := Lib.hid ((Hp_w5.out.below (by (repeat (first | exact Below.refl _ _ | refine below_drawnN ?_ _ | refine below_drawn ?_ | refine below_new ?_ _)))).below hb)
          have Hm_w6 : RowKit.Hid (Blk w6 w4.heap.size [.int .i64 2, .int .i64 A, .int .i64 B, .int .i64 C, .int .i64 room, .slice (some ad) 1 lc, .int .i64 512000, .int .i64 0, .int .i64 0, .int .i64 0, .int .i64 0, .int .i64 0, .int .i64 0, .int .i64 v7, .int .u64 (s : Int)]) := Lib.hid ((Hm_w5.out.below (by (repeat (first | exact Below.refl _ _ | refine below_drawnN ?_ _ | refine below_drawn ?_ | refine below_new ?_ _)))).below hb)
          have had_n : w6.cell? ad = some (.slice a xs.length c) := below_cell_of hb (below_cell_of (by (repeat (first | exact Below.refl _ _ | refine below_drawnN ?_ _ | refine below_drawn ?_ | refine below_new ?_ _))) had)
          have HHH_w6 : RowKit.Hid (HoldsL w6 ad xs) := Lib.hid ((HHH_w5.out.below (by (repeat (first | exact Below.refl _ _ | refine below_drawnN ?_ _ | refine below_drawn ?_ | refine below_new ?_ _)))).below hb)
          have HTT_w6 : RowKit.Hid (Table w6) := Lib.hid (table_below (table_below HTT_w5.out (by (repeat (first | exact Below.refl _ _ | refine below_drawnN ?_ _ | refine below_drawn ?_ | refine below_new ?_ _)))) hb)
          clear hb had lthad q0 q1 q2 q3 q4 q5 q6 q7 q8 q9 q10 q11 q12 q13 q14 ltq p0 p1 p2 p3 p4 p5 p6 p7 ltp ltm HBE_w5 Hq_w5 Hp_w5 Hm_w5 HHH_w5 HTT_w5
          have had := had_n
          clear had_n
          have lthad := World.block_lt_of_cell? _ _ had
          have q0 := Hq_w6.out.cell 0 rfl
          have q1 := Hq_w6.out.cell 1 rfl
          have q2 := Hq_w6.out.cell 2 rfl
          have q3 := Hq_w6.out.cell 3 rfl
          have q4 := Hq_w6.out.cell 4 rfl
          have q5 := Hq_w6.out.cell 5 rfl
          have q6 := Hq_w6.out.cell 6 rfl
          have q7 := Hq_w6.out.cell 7 rfl
          have q8 := Hq_w6.out.cell 8 rfl
          have q9 := Hq_w6.out.cell 9 rfl
          have q10 := Hq_w6.out.cell 10 rfl
          have q11 := Hq_w6.out.cell 11 rfl
          have q12 := Hq_w6.out.cell 12 rfl
          have q13 := Hq_w6.out.cell 13 rfl
          have q14 := Hq_w6.out.cell 14 rfl
          have ltq := Hq_w6.out.lt
          have p0 := Hp_w6.out.cell 0 rfl
          have p1 := Hp_w6.out.cell 1 rfl
          have p2 := Hp_w6.out.cell 2 rfl
          have p3 := Hp_w6.out.cell 3 rfl
          have p4 := Hp_w6.out.cell 4 rfl
          have p5 := Hp_w6.out.cell 5 rfl
          have p6 := Hp_w6.out.cell 6 rfl
          have p7 := Hp_w6.out.cell 7 rfl
          have ltp := Hp_w6.out.lt
          have ltm := Hm_w6.out.lt
          clear HFB
          rcases HAB.out with rfl | hfp
          · go_wp2
            all_goals (go_ret; exact ⟨ret_bool (by simp), (by repeat (first | exact HBE_w6.out | refine below_drawnN ?_ _ | refine below_drawn ?_ | refine below_new ?_ _ | refine below_set ?_ (by first | (simp; done) | (simp; omega)) _))⟩)
          · go_wp2
            all_goals (go_ret; exact ⟨ret_bool (by simp), (by repeat (first | exact HBE_w6.out | refine below_drawnN ?_ _ | refine below_drawn ?_ | refine below_new ?_ _ | refine below_set ?_ (by first | (simp; done) | (simp; omega)) _))⟩)
        obtain ⟨fb, hfb, hab, hb0⟩ := HKEY.out (v0 + more) (by omega) (by omega)
        have HFB := Lib.hid hfb
        have HAB := Lib.hid hab
        clear hfb hab HKEY
        go_wp2_with (first | (refine wpList_load_mid rfl 28 _ rfl W.heap.size 0 rfl [.int .i64 2, .int .i64 A, .int .i64 B, .int .i64 C, .int .i64 room, .slice (some ad) 1 lc, .int .i64 v0, .int .i64 0, .int .i64 0, .int .i64 0, .int .i64 0, .int .i64 0, .int .i64 0, .int .i64 v7, .int .u64 (s : Int)] _ (Hq_w4.out.below (by (repeat (first | exact Below.refl _ _ | refine below_drawnN ?_ _ | refine below_drawn ?_ | refine below_new ?_ _)))).range Tryd.underlying28 rfl (by kernel_rfl) ?_) | (refine wpList_store_new rfl 28 _ _ rfl _ #[.int .i64 2, .int .i64 A, .int .i64 B, .int .i64 C, .int .i64 room, .slice (some ad) 1 lc, .int .i64 v0, .int .i64 0, .int .i64 0, .int .i64 0, .int .i64 0, .int .i64 0, .int .i64 0, .int .i64 v7, .int .u64 (s : Int)] rfl rfl (by kernel_rfl) rfl rfl ?_) | (refine wpList_load_mid rfl 35 _ rfl (W.heap.size + 1) 0 rfl [.int .i64 pf, .int .i64 ps, .int .i64 pn, .int .i64 pd, .int .i64 pz, .int .i64 pt, .bool pa, .bool false] _ (Hp_w4.out.below (by (repeat (first | exact Below.refl _ _ | refine below_drawnN ?_ _ | refine below_drawn ?_ | refine below_new ?_ _)))).range Tryd.underlying35 rfl (by kernel_rfl) ?_))
        refine (HFA.out _ (HHH_w4.out.below (by exact (by (repeat (first | exact Below.refl _ _ | refine below_drawnN ?_ _ | refine below_drawn ?_ | refine below_new ?_ _))))) (table_below HTT_w4.out (by (repeat (first | exact Below.refl _ _ | refine below_drawnN ?_ _ | refine below_drawn ?_ | refine below_new ?_ _))))).mono ?_
        rintro e w5 ⟨rfl, hb⟩
        have HBE_w5 : RowKit.Hid (Below W.heap.size W w5) := Lib.hid (below_on (by repeat (first | exact HBE_w4.out | refine below_drawnN ?_ _ | refine below_drawn ?_ | refine below_new ?_ _)) hb)
        have Hq_w5 : RowKit.Hid (Blk w5 W.heap.size [.int .i64 2, .int .i64 A, .int .i64 B, .int .i64 C, .int .i64 room, .slice (some ad) 1 lc, .int .i64 v0, .int .i64 0, .int .i64 0, .int .i64 0, .int .i64 0, .int .i64 0, .int .i64 0, .int .i64 v7, .int .u64 (s : Int)]) := Lib.hid ((Hq_w4.out.below (by (repeat (first | exact Below.refl _ _ | refine below_drawnN ?_ _ | refine below_drawn ?_ | refine below_new ?_ _)))).below hb)
        have Hp_w5 : RowKit.Hid (Blk w5 (W.heap.size + 1) [.int .i64 pf, .int .i64 ps, .int .i64 pn, .int .i64 pd, .int .i64 pz, .int .i64 pt, .bool pa, .bool false]) := Lib.hid ((Hp_w4.out.below (by (repeat (first | exact Below.refl _ _ | refine below_drawnN ?_ _ | refine below_drawn ?_ | refine below_new ?_ _)))).below hb)
        have had_n : w5.cell? ad = some (.slice a xs.length c) := below_cell_of hb (below_cell_of (by (repeat (first | exact Below.refl _ _ | refine below_drawnN ?_ _ | refine below_drawn ?_ | refine below_new ?_ _))) had)
        have HHH_w5 : RowKit.Hid (HoldsL w5 ad xs) := Lib.hid ((HHH_w4.out.below (by (repeat (first | exact Below.refl _ _ | refine below_drawnN ?_ _ | refine below_drawn ?_ | refine below_new ?_ _)))).below hb)
        have HTT_w5 : RowKit.Hid (Table w5) := Lib.hid (table_below (table_below HTT_w4.out (by (repeat (first | exact Below.refl _ _ | refine below_drawnN ?_ _ | refine below_drawn ?_ | refine below_new ?_ _)))) hb)
        have Hm_w5 : RowKit.Hid (Blk w5 w4.heap.size [.int .i64 2, .int .i64 A, .int .i64 B, .int .i64 C, .int .i64 room, .slice (some ad) 1 lc, .int .i64 (v0 + more), .int .i64 0, .int .i64 0, .int .i64 0, .int .i64 0, .int .i64 0, .int .i64 0, .int .i64 v7, .int .u64 (s : Int)]) := Lib.hid (((blk_new_at w4 #[.int .i64 2, .int .i64 A, .int .i64 B, .int .i64 C, .int .i64 room, .slice (some ad) 1 lc, .int .i64 (v0 + more), .int .i64 0, .int .i64 0, .int .i64 0, .int .i64 0, .int .i64 0, .int .i64 0, .int .i64 v7, .int .u64 (s : Int)] 28 rfl).below (by (repeat (first | exact Below.refl _ _ | refine below_drawnN ?_ _ | refine below_drawn ?_ | refine below_new ?_ _)))).below hb)
        clear hb had lthad q0 q1 q2 q3 q4 q5 q6 q7 q8 q9 q10 q11 q12 q13 q14 ltq p0 p1 p2 p3 p4 p5 p6 p7 ltp HBE_w4 Hq_w4 Hp_w4 HHH_w4 HTT_w4
        have had := had_n
        clear had_n
        have lthad := World.block_lt_of_cell? _ _ had
        have q0 := Hq_w5.out.cell 0 rfl
        have q1 := Hq_w5.out.cell 1 rfl
        have q2 := Hq_w5.out.cell 2 rfl
        have q3 := Hq_w5.out.cell 3 rfl
        have q4 := Hq_w5.out.cell 4 rfl
        have q5 := Hq_w5.out.cell 5 rfl
        have q6 := Hq_w5.out.cell 6 rfl
        have q7 := Hq_w5.out.cell 7 rfl
        have q8 := Hq_w5.out.cell 8 rfl
        have q9 := Hq_w5.out.cell 9 rfl
        have q10 := Hq_w5.out.cell 10 rfl
        have q11 := Hq_w5.out.cell 11 rfl
        have q12 := Hq_w5.out.cell 12 rfl
        have q13 := Hq_w5.out.cell 13 rfl
        have q14 := Hq_w5.out.cell 14 rfl
        have ltq := Hq_w5.out.lt
        have p0 := Hp_w5.out.cell 0 rfl
        have p1 := Hp_w5.out.cell 1 rfl
        have p2 := Hp_w5.out.cell 2 rfl
        have p3 := Hp_w5.out.cell 3 rfl
        have p4 := Hp_w5.out.cell 4 rfl
        have p5 := Hp_w5.out.cell 5 rfl
        have p6 := Hp_w5.out.cell 6 rfl
        have p7 := Hp_w5.out.cell 7 rfl
        have ltp := Hp_w5.out.lt
        have ltm := Hm_w5.out.lt
        clear HFA
        go_wp2_with (first | (refine wpList_load_mid rfl 28 _ rfl w4.heap.size 0 rfl [.int .i64 2, .int .i64 A, .int .i64 B, .int .i64 C, .int .i64 room, .slice (some ad) 1 lc, .int .i64 (v0 + more), .int .i64 0, .int .i64 0, .int .i64 0, .int .i64 0, .int .i64 0, .int .i64 0, .int .i64 v7, .int .u64 (s : Int)] _ (Hm_w5.out.below (by (repeat (first | exact Below.refl _ _ | refine below_drawnN ?_ _ | refine below_drawn ?_ | refine below_new ?_ _)))).range Tryd.underlying28 rfl (by kernel_rfl) ?_) | (refine wpList_load_mid rfl 35 _ rfl (W.heap.size + 1) 0 rfl [.int .i64 pf, .int .i64 ps, .int .i64 pn, .int .i64 pd, .int .i64 pz, .int .i64 pt, .bool pa, .bool false] _ (Hp_w5.out.below (by (repeat (first | exact Below.refl _ _ | refine below_drawnN ?_ _ | refine below_drawn ?_ | refine below_new ?_ _)))).range Tryd.underlying35 rfl (by kernel_rfl) ?_))
        refine (HFB.out _ (HHH_w5.out.below (by exact (by (repeat (first | exact Below.refl _ _ | refine below_drawnN ?_ _ | refine below_drawn ?_ | refine below_new ?_ _))))) (table_below HTT_w5.out (by (repeat (first | exact Below.refl _ _ | refine below_drawnN ?_ _ | refine below_drawn ?_ | refine below_new ?_ _))))).mono ?_
        rintro e w6 ⟨rfl, hb⟩
        have HBE_w6 : RowKit.Hid (Below W.heap.size W w6) := Lib.hid (below_on (by repeat (first | exact HBE_w5.out | refine below_drawnN ?_ _ | refine below_drawn ?_ | refine below_new ?_ _)) hb)
        have Hq_w6 : RowKit.Hid (Blk w6 W.heap.size [.int .i64 2, .int .i64 A, .int .i64 B, .int .i64 C, .int .i64 room, .slice (some ad) 1 lc, .int .i64 v0, .int .i64 0, .int .i64 0, .int .i64 0, .int .i64 0, .int .i64 0, .int .i64 0, .int .i64 v7, .int .u64 (s : Int)]) := Lib.hid ((Hq_w5.out.below (by (repeat (first | exact Below.refl _ _ | refine below_drawnN ?_ _ | refine below_drawn ?_ | refine below_new ?_ _)))).below hb)
        have Hp_w6 : RowKit.Hid (Blk w6 (W.heap.size + 1) [.int .i64 pf, .int .i64 ps, .int .i64 pn, .int .i64 pd, .int .i64 pz, .int .i64 pt, .bool pa, .bool false]) := Lib.hid ((Hp_w5.out.below (by (repeat (first | exact Below.refl _ _ | refine below_drawnN ?_ _ | refine below_drawn ?_ | refine below_new ?_ _)))).below hb)
        have Hm_w6 : RowKit.Hid (Blk w6 w4.heap.size [.int .i64 2, .int .i64 A, .int .i64 B, .int .i64 C, .int .i64 room, .slice (some ad) 1 lc, .int .i64 (v0 + more), .int .i64 0, .int .i64 0, .int .i64 0, .int .i64 0, .int .i64 0, .int .i64 0, .int .i64 v7, .int .u64 (s : Int)]) := Lib.hid ((Hm_w5.out.below (by (repeat (first | exact Below.refl _ _ | refine below_drawnN ?_ _ | refine below_drawn ?_ | refine below_new ?_ _)))).below hb)
        have had_n : w6.cell? ad = some (.slice a xs.length c) := below_cell_of hb (below_cell_of (by (repeat (first | exact Below.refl _ _ | refine below_drawnN ?_ _ | refine below_drawn ?_ | refine below_new ?_ _))) had)
        have HHH_w6 : RowKit.Hid (HoldsL w6 ad xs) := Lib.hid ((HHH_w5.out.below (by (repeat (first | exact Below.refl _ _ | refine below_drawnN ?_ _ | refine below_drawn ?_ | refine below_new ?_ _)))).below hb)
        have HTT_w6 : RowKit.Hid (Table w6) := Lib.hid (table_below (table_below HTT_w5.out (by (repeat (first | exact Below.refl _ _ | refine below_drawnN ?_ _ | refine below_drawn ?_ | refine below_new ?_ _)))) hb)
        clear hb had lthad q0 q1 q2 q3 q4 q5 q6 q7 q8 q9 q10 q11 q12 q13 q14 ltq p0 p1 p2 p3 p4 p5 p6 p7 ltp ltm HBE_w5 Hq_w5 Hp_w5 Hm_w5 HHH_w5 HTT_w5
        have had := had_n
        clear had_n
        have lthad := World.block_lt_of_cell? _ _ had
        have q0 := Hq_w6.out.cell 0 rfl
        have q1 := Hq_w6.out.cell 1 rfl
        have q2 := Hq_w6.out.cell 2 rfl
        have q3 := Hq_w6.out.cell 3 rfl
        have q4 := Hq_w6.out.cell 4 rfl
        have q5 := Hq_w6.out.cell 5 rfl
        have q6 := Hq_w6.out.cell 6 rfl
        have q7 := Hq_w6.out.cell 7 rfl
        have q8 := Hq_w6.out.cell 8 rfl
        have q9 := Hq_w6.out.cell 9 rfl
        have q10 := Hq_w6.out.cell 10 rfl
        have q11 := Hq_w6.out.cell 11 rfl
        have q12 := Hq_w6.out.cell 12 rfl
        have q13 := Hq_w6.out.cell 13 rfl
        have q14 := Hq_w6.out.cell 14 rfl
        have ltq := Hq_w6.out.lt
        have p0 := Hp_w6.out.cell 0 rfl
        have p1 := Hp_w6.out.cell 1 rfl
        have p2 := Hp_w6.out.cell 2 rfl
        have p3 := Hp_w6.out.cell 3 rfl
        have p4 := Hp_w6.out.cell 4 rfl
        have p5 := Hp_w6.out.cell 5 rfl
        have p6 := Hp_w6.out.cell 6 rfl
        have p7 := Hp_w6.out.cell 7 rfl
        have ltp := Hp_w6.out.lt
        have ltm := Hm_w6.out.lt
        clear HFB
        rcases HAB.out with rfl | hfp
        · go_wp2
          all_goals (go_ret; exact ⟨ret_bool (by simp), (by repeat (first | exact HBE_w6.out | refine below_drawnN ?_ _ | refine below_drawn ?_ | refine below_new ?_ _ | refine below_set ?_ (by first | (simp; done) | (simp; omega)) _))⟩)
        · go_wp2
          all_goals (go_ret; exact ⟨ret_bool (by simp), (by repeat (first | exact HBE_w6.out | refine below_drawnN ?_ _ | refine below_drawn ?_ | refine below_new ?_ _ | refine below_set ?_ (by first | (simp; done) | (simp; omega)) _))⟩)
end Go.Proofs.YtfeemiamjmmolaaDoor
