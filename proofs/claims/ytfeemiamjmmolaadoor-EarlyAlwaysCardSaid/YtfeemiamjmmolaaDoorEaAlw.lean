/- The statement EarlyAlways: it returns true, whatever the input, and leaves what was in memory alone. -/
import Derived.Test.YtfeemiamjmmolaaDoorEaHead
import Derived.Test.YtfeemiamjmmolaaDoorEaPar
namespace Go.Proofs.YtfeemiamjmmolaaDoor
open Go.RowKit

theorem always_one {A B n room z : Int} {s s1 : Nat} {what : Int} (h : ¬ n = room) (hab : A < B) (hv : Ea.verdict A B n room z s = (what, s1)) : (what = 0 ∧ z < 1024 * B) ∨ what = 1 := by
  unfold Ea.verdict at hv
  rw [if_neg h] at hv
  split at hv
  · injection hv with h1 h2
    by_cases hz : z < 1024 * B
    · exact Or.inl ⟨h1.symm, hz⟩
    · exact Or.inr (by omega)
  · split at hv
    · injection hv with h1 h2
      exact Or.inr h1.symm
    · split at hv
      · injection hv with h1 h2
        exact Or.inr h1.symm
      · injection hv with h1 h2
        exact Or.inl ⟨h1.symm, by omega⟩
theorem always_cases {what z B : Int} (h : (what = 0 ∧ z < 1024 * B) ∨ what = 1) (pa oa : Bool) :
    (Ea.fated what pa false = 0 ∧ Ea.fated what oa false = 0 ∧ z < 1024 * B) ∨ (Ea.fated what pa false = 1 ∧ pa = true ∧ Ea.fated what oa false = 1) ∨ (Ea.fated what pa false = 1 ∧ pa = true ∧ Ea.fated what oa false = 2) ∨ (Ea.fated what pa false = 2 ∧ pa = false ∧ Ea.fated what oa false = 1) ∨ (Ea.fated what pa false = 2 ∧ pa = false ∧ Ea.fated what oa false = 2) := by
  rcases h with ⟨rfl, hz⟩ | rfl
  · exact Or.inl ⟨rfl, rfl, hz⟩
  · cases pa <;> cases oa <;> simp [Ea.fated]
set_option maxRecDepth 100000 in
set_option maxHeartbeats 16000000 in
theorem always_entry (kind A B C room : Int) (la : Option Addr) (ln lc : Nat) (v0 v1 v2 v3 v4 v5 v6 v7 : Int) (s : Nat) (p o : Ea.Pkt) (now : Int) (W : World) (hL : RdLs W la ln) (hln : (ln : Int) ≤ 9223372036854775807) (ht : Table W) :
    Calls Tryd.prog 5 #[.agg #[.int .i64 kind, .int .i64 A, .int .i64 B, .int .i64 C, .int .i64 room, .slice la ln lc, .int .i64 v0, .int .i64 v1, .int .i64 v2, .int .i64 v3, .int .i64 v4, .int .i64 v5, .int .i64 v6, .int .i64 v7, .int .u64 (s : Int)], pktVal p, pktVal o, .int .i64 now] W fun e V => e = .returned (.bool true) ∧ Below W.heap.size W V := by
  obtain ⟨pf, ps, pn, pd, pz, pt, pa, pm⟩ := p
  obtain ⟨of, os, on, od, oz, ot, oa, om⟩ := o
  have HL := Lib.hid hL
  have HT := Lib.hid ht
  clear hL ht
  go_enter Tryd.func5, Tryd.ntmps5
  go_wp2_with fail
  refine (head_ok _ (table_below HT.out (by (repeat (first | exact Below.refl _ _ | refine below_drawnN ?_ _ | refine below_drawn ?_ | refine below_new ?_ _))))).mono ?_
  rintro e w1 ⟨rfl, hb⟩
  have HBE_w1 : RowKit.Hid (Below W.heap.size W w1) := Lib.hid (below_on (by (repeat (first | exact Below.refl _ _ | refine below_drawnN ?_ _ | refine below_drawn ?_ | refine below_new ?_ _))) hb)
  have Hq_w1 : RowKit.Hid (Blk w1 W.heap.size [.int .i64 kind, .int .i64 A, .int .i64 B, .int .i64 C, .int .i64 room, .slice la ln lc, .int .i64 v0, .int .i64 v1, .int .i64 v2, .int .i64 v3, .int .i64 v4, .int .i64 v5, .int .i64 v6, .int .i64 v7, .int .u64 (s : Int)]) := Lib.hid (((Blk.new W #[.int .i64 kind, .int .i64 A, .int .i64 B, .int .i64 C, .int .i64 room, .slice la ln lc, .int .i64 v0, .int .i64 v1, .int .i64 v2, .int .i64 v3, .int .i64 v4, .int .i64 v5, .int .i64 v6, .int .i64 v7, .int .u64 (s : Int)] 28).below (by (repeat (first | exact Below.refl _ _ | refine below_drawnN ?_ _ | refine below_drawn ?_ | refine below_new ?_ _)))).below hb)
  have ltq := Hq_w1.out.lt
  have Hp_w1 : RowKit.Hid (Blk w1 (W.heap.size + 1) [.int .i64 pf, .int .i64 ps, .int .i64 pn, .int .i64 pd, .int .i64 pz, .int .i64 pt, .bool pa, .bool pm]) := Lib.hid (((blk_new_at (W.alloc _) #[.int .i64 pf, .int .i64 ps, .int .i64 pn, .int .i64 pd, .int .i64 pz, .int .i64 pt, .bool pa, .bool pm] 35 (by simp)).below (by (repeat (first | exact Below.refl _ _ | refine below_drawnN ?_ _ | refine below_drawn ?_ | refine below_new ?_ _)))).below hb)
  have p7 := Hp_w1.out.cell 7 rfl
  have ltp := Hp_w1.out.lt
  have Ho_w1 : RowKit.Hid (Blk w1 (W.heap.size + 1 + 1) [.int .i64 of, .int .i64 os, .int .i64 on, .int .i64 od, .int .i64 oz, .int .i64 ot, .bool oa, .bool om]) := Lib.hid (((blk_new_at ((W.alloc _).alloc _) #[.int .i64 of, .int .i64 os, .int .i64 on, .int .i64 od, .int .i64 oz, .int .i64 ot, .bool oa, .bool om] 35 (by simp)).below (by (repeat (first | exact Below.refl _ _ | refine below_drawnN ?_ _ | refine below_drawn ?_ | refine below_new ?_ _)))).below hb)
  have o7 := Ho_w1.out.cell 7 rfl
  have lto := Ho_w1.out.lt
  clear hb
  have fzp := Hp_w1.out.frozen ⟨W.heap.size + 1, 7, none⟩ rfl
  have fzo := Ho_w1.out.frozen ⟨W.heap.size + 1 + 1, 7, none⟩ rfl
  have h_q : Blk ((w1.setCell ⟨W.heap.size + 1, 7, none⟩ (.bool false)).setCell ⟨W.heap.size + 1 + 1, 7, none⟩ (.bool false)) W.heap.size [.int .i64 kind, .int .i64 A, .int .i64 B, .int .i64 C, .int .i64 room, .slice la ln lc, .int .i64 v0, .int .i64 v1, .int .i64 v2, .int .i64 v3, .int .i64 v4, .int .i64 v5, .int .i64 v6, .int .i64 v7, .int .u64 (s : Int)] := ((Hq_w1.out.kept (grown_set w1 ⟨W.heap.size + 1, 7, none⟩ (.bool false)) (by first | (simp; done) | (simp; omega))).kept (grown_set (w1.setCell ⟨W.heap.size + 1, 7, none⟩ (.bool false)) ⟨W.heap.size + 1 + 1, 7, none⟩ (.bool false)) (by first | (simp; done) | (simp; omega)))
  have h_p : Blk ((w1.setCell ⟨W.heap.size + 1, 7, none⟩ (.bool false)).setCell ⟨W.heap.size + 1 + 1, 7, none⟩ (.bool false)) (W.heap.size + 1) [.int .i64 pf, .int .i64 ps, .int .i64 pn, .int .i64 pd, .int .i64 pz, .int .i64 pt, .bool pa, .bool false] := ((Hp_w1.out.set 7 (.bool false)).kept (grown_set (w1.setCell ⟨W.heap.size + 1, 7, none⟩ (.bool false)) ⟨W.heap.size + 1 + 1, 7, none⟩ (.bool false)) (by first | (simp; done) | (simp; omega)))
  have h_o : Blk ((w1.setCell ⟨W.heap.size + 1, 7, none⟩ (.bool false)).setCell ⟨W.heap.size + 1 + 1, 7, none⟩ (.bool false)) (W.heap.size + 1 + 1) [.int .i64 of, .int .i64 os, .int .i64 on, .int .i64 od, .int .i64 oz, .int .i64 ot, .bool oa, .bool false] := ((Ho_w1.out.kept (grown_set w1 ⟨W.heap.size + 1, 7, none⟩ (.bool false)) (by first | (simp; done) | (simp; omega))).set 7 (.bool false))
  have h_b : Below W.heap.size W ((w1.setCell ⟨W.heap.size + 1, 7, none⟩ (.bool false)).setCell ⟨W.heap.size + 1 + 1, 7, none⟩ (.bool false)) := (below_set (below_set HBE_w1.out (by first | (simp; done) | (simp; omega)) _) (by first | (simp; done) | (simp; omega)) _)
  have H_q := Lib.hid h_q
  have H_b := Lib.hid h_b
  have H_p := Lib.hid h_p
  have H_o := Lib.hid h_o
  clear h_q h_b h_p h_o
  go_wp2_with (refine wpList_load_mid rfl 28 _ rfl W.heap.size 0 rfl [.int .i64 kind, .int .i64 A, .int .i64 B, .int .i64 C, .int .i64 room, .slice la ln lc, .int .i64 v0, .int .i64 v1, .int .i64 v2, .int .i64 v3, .int .i64 v4, .int .i64 v5, .int .i64 v6, .int .i64 v7, .int .u64 (s : Int)] _ H_q.out.range Tryd.underlying28 rfl (by kernel_rfl) ?_)
  obtain ⟨w1s, hw⟩ : ∃ V, ((w1.setCell ⟨W.heap.size + 1, 7, none⟩ (.bool false)).setCell ⟨W.heap.size + 1 + 1, 7, none⟩ (.bool false)) = V := ⟨_, rfl⟩
  rw [hw] at H_q
  rw [hw] at H_b
  rw [hw] at H_p
  rw [hw] at H_o
  rw [hw]
  clear hw
  have HBE_w1s := H_b
  have Hq_w1s := H_q
  have Hp_w1s := H_p
  have Ho_w1s := H_o
  clear ltq p7 ltp o7 lto H_q H_b H_p H_o HBE_w1 Hq_w1 Hp_w1 Ho_w1 fzp fzo
  have HL1 := Lib.hid (HL.out.below HBE_w1s.out)
  refine (usable_any kind A B C room la ln lc v0 v1 v2 v3 v4 v5 v6 v7 s w1s HL1.out hln).mono ?_
  rintro e w2 ⟨⟨b, rfl, hus⟩, hb⟩
  have HUS := Lib.hid hus
  have HB12 := Lib.hid hb
  clear hus
  have HBE_w2 : RowKit.Hid (Below W.heap.size W w2) := Lib.hid (below_on (by repeat (first | exact HBE_w1s.out | refine below_drawnN ?_ _ | refine below_drawn ?_ | refine below_new ?_ _)) hb)
  have Hq_w2 : RowKit.Hid (Blk w2 W.heap.size [.int .i64 kind, .int .i64 A, .int .i64 B, .int .i64 C, .int .i64 room, .slice la ln lc, .int .i64 v0, .int .i64 v1, .int .i64 v2, .int .i64 v3, .int .i64 v4, .int .i64 v5, .int .i64 v6, .int .i64 v7, .int .u64 (s : Int)]) := Lib.hid ((Hq_w1s.out.below (by (repeat (first | exact Below.refl _ _ | refine below_drawnN ?_ _ | refine below_drawn ?_ | refine below_new ?_ _)))).below hb)
  have Hp_w2 : RowKit.Hid (Blk w2 (W.heap.size + 1) [.int .i64 pf, .int .i64 ps, .int .i64 pn, .int .i64 pd, .int .i64 pz, .int .i64 pt, .bool pa, .bool false]) := Lib.hid ((Hp_w1s.out.below (by (repeat (first | exact Below.refl _ _ | refine below_drawnN ?_ _ | refine below_drawn ?_ | refine below_new ?_ _)))).below hb)
  have Ho_w2 : RowKit.Hid (Blk w2 (W.heap.size + 1 + 1) [.int .i64 of, .int .i64 os, .int .i64 on, .int .i64 od, .int .i64 oz, .int .i64 ot, .bool oa, .bool false]) := Lib.hid ((Ho_w1s.out.below (by (repeat (first | exact Below.refl _ _ | refine below_drawnN ?_ _ | refine below_drawn ?_ | refine below_new ?_ _)))).below hb)
  clear hb HBE_w1s Hq_w1s Hp_w1s Ho_w1s
  have q0 := Hq_w2.out.cell 0 rfl
  have q1 := Hq_w2.out.cell 1 rfl
  have q2 := Hq_w2.out.cell 2 rfl
  have q3 := Hq_w2.out.cell 3 rfl
  have q4 := Hq_w2.out.cell 4 rfl
  have q5 := Hq_w2.out.cell 5 rfl
  have q6 := Hq_w2.out.cell 6 rfl
  have q7 := Hq_w2.out.cell 7 rfl
  have q8 := Hq_w2.out.cell 8 rfl
  have q9 := Hq_w2.out.cell 9 rfl
  have q10 := Hq_w2.out.cell 10 rfl
  have q11 := Hq_w2.out.cell 11 rfl
  have q12 := Hq_w2.out.cell 12 rfl
  have q13 := Hq_w2.out.cell 13 rfl
  have q14 := Hq_w2.out.cell 14 rfl
  have ltq := Hq_w2.out.lt
  have p0 := Hp_w2.out.cell 0 rfl
  have p1 := Hp_w2.out.cell 1 rfl
  have p2 := Hp_w2.out.cell 2 rfl
  have p3 := Hp_w2.out.cell 3 rfl
  have p4 := Hp_w2.out.cell 4 rfl
  have p5 := Hp_w2.out.cell 5 rfl
  have p6 := Hp_w2.out.cell 6 rfl
  have p7 := Hp_w2.out.cell 7 rfl
  have ltp := Hp_w2.out.lt
  have o0 := Ho_w2.out.cell 0 rfl
  have o1 := Ho_w2.out.cell 1 rfl
  have o2 := Ho_w2.out.cell 2 rfl
  have o3 := Ho_w2.out.cell 3 rfl
  have o4 := Ho_w2.out.cell 4 rfl
  have o5 := Ho_w2.out.cell 5 rfl
  have o6 := Ho_w2.out.cell 6 rfl
  have o7 := Ho_w2.out.cell 7 rfl
  have lto := Ho_w2.out.lt
  cases b with
  | false =>
    go_wp2
    try (go_quiet (fail))
    go_wp2
    go_ret
    exact ⟨rfl, (by repeat (first | exact HBE_w2.out | refine below_drawnN ?_ _ | refine below_drawn ?_ | refine below_new ?_ _ | refine below_set ?_ (by first | (simp; done) | (simp; omega)) _))⟩
  | true =>
    obtain ⟨rfl, rfl, rfl, rfl, rfl, rfl, rfl, rfl, ad, a, n, c, xs, rfl, hc, hr, hn, hq⟩ := HUS.out rfl
    have hlen := hr.1
    subst hlen
    have HQO := Lib.hid hq
    have had : w2.cell? ad = some (.slice a xs.length c) := below_cell_of HB12.out hc
    have lthad := World.block_lt_of_cell? _ _ had
    have HHH_w2 : RowKit.Hid (HoldsL w2 ad xs) := Lib.hid (HoldsL.below ⟨a, c, hc, hr⟩ HB12.out)
    have HTT_w2 : RowKit.Hid (Table w2) := Lib.hid (table_below HT.out HBE_w2.out)
    clear hc hr hq HUS HB12 HL1
    cases hok : decide (⟨pf, ps, pn, pd, pz, pt, pa, false⟩ : Ea.Pkt).ok with
    | false =>
      have HOK := Lib.hid hok
      clear hok
      go_wp2_with fail
      refine (packet_any (⟨pf, ps, pn, pd, pz, pt, pa, false⟩ : Ea.Pkt) _).mono ?_
      rw [HOK.out]
      rintro e w3 ⟨rfl, hb⟩
      have HBE_w3 : RowKit.Hid (Below W.heap.size W w3) := Lib.hid (below_on (by repeat (first | exact HBE_w2.out | refine below_drawnN ?_ _ | refine below_drawn ?_ | refine below_new ?_ _)) hb)
      have Hq_w3 : RowKit.Hid (Blk w3 W.heap.size [.int .i64 2, .int .i64 A, .int .i64 B, .int .i64 C, .int .i64 room, .slice (some ad) 1 lc, .int .i64 v0, .int .i64 0, .int .i64 0, .int .i64 0, .int .i64 0, .int .i64 0, .int .i64 0, .int .i64 v7, .int .u64 (s : Int)]) := Lib.hid ((Hq_w2.out.below (by (repeat (first | exact Below.refl _ _ | refine below_drawnN ?_ _ | refine below_drawn ?_ | refine below_new ?_ _)))).below hb)
      have Hp_w3 : RowKit.Hid (Blk w3 (W.heap.size + 1) [.int .i64 pf, .int .i64 ps, .int .i64 pn, .int .i64 pd, .int .i64 pz, .int .i64 pt, .bool pa, .bool false]) := Lib.hid ((Hp_w2.out.below (by (repeat (first | exact Below.refl _ _ | refine below_drawnN ?_ _ | refine below_drawn ?_ | refine below_new ?_ _)))).below hb)
      have Ho_w3 : RowKit.Hid (Blk w3 (W.heap.size + 1 + 1) [.int .i64 of, .int .i64 os, .int .i64 on, .int .i64 od, .int .i64 oz, .int .i64 ot, .bool oa, .bool false]) := Lib.hid ((Ho_w2.out.below (by (repeat (first | exact Below.refl _ _ | refine below_drawnN ?_ _ | refine below_drawn ?_ | refine below_new ?_ _)))).below hb)
      have had_n : w3.cell? ad = some (.slice a xs.length c) := below_cell_of hb (below_cell_of (by (repeat (first | exact Below.refl _ _ | refine below_drawnN ?_ _ | refine below_drawn ?_ | refine below_new ?_ _))) had)
      have HHH_w3 : RowKit.Hid (HoldsL w3 ad xs) := Lib.hid ((HHH_w2.out.below (by (repeat (first | exact Below.refl _ _ | refine below_drawnN ?_ _ | refine below_drawn ?_ | refine below_new ?_ _)))).below hb)
      have HTT_w3 : RowKit.Hid (Table w3) := Lib.hid (table_below (table_below HTT_w2.out (by (repeat (first | exact Below.refl _ _ | refine below_drawnN ?_ _ | refine below_drawn ?_ | refine below_new ?_ _)))) hb)
      clear hb q0 q1 q2 q3 q4 q5 q6 q7 q8 q9 q10 q11 q12 q13 q14 ltq p0 p1 p2 p3 p4 p5 p6 p7 ltp o0 o1 o2 o3 o4 o5 o6 o7 lto had lthad HBE_w2 Hq_w2 Hp_w2 Ho_w2 HHH_w2 HTT_w2
      have had := had_n
      clear had_n
      have lthad := World.block_lt_of_cell? _ _ had
      have q0 := Hq_w3.out.cell 0 rfl
      have q1 := Hq_w3.out.cell 1 rfl
      have q2 := Hq_w3.out.cell 2 rfl
      have q3 := Hq_w3.out.cell 3 rfl
      have q4 := Hq_w3.out.cell 4 rfl
      have q5 := Hq_w3.out.cell 5 rfl
      have q6 := Hq_w3.out.cell 6 rfl
      have q7 := Hq_w3.out.cell 7 rfl
      have q8 := Hq_w3.out.cell 8 rfl
      have q9 := Hq_w3.out.cell 9 rfl
      have q10 := Hq_w3.out.cell 10 rfl
      have q11 := Hq_w3.out.cell 11 rfl
      have q12 := Hq_w3.out.cell 12 rfl
      have q13 := Hq_w3.out.cell 13 rfl
      have q14 := Hq_w3.out.cell 14 rfl
      have ltq := Hq_w3.out.lt
      have p0 := Hp_w3.out.cell 0 rfl
      have p1 := Hp_w3.out.cell 1 rfl
      have p2 := Hp_w3.out.cell 2 rfl
      have p3 := Hp_w3.out.cell 3 rfl
      have p4 := Hp_w3.out.cell 4 rfl
      have p5 := Hp_w3.out.cell 5 rfl
      have p6 := Hp_w3.out.cell 6 rfl
      have p7 := Hp_w3.out.cell 7 rfl
      have ltp := Hp_w3.out.lt
      have o0 := Ho_w3.out.cell 0 rfl
      have o1 := Ho_w3.out.cell 1 rfl
      have o2 := Ho_w3.out.cell 2 rfl
      have o3 := Ho_w3.out.cell 3 rfl
      have o4 := Ho_w3.out.cell 4 rfl
      have o5 := Ho_w3.out.cell 5 rfl
      have o6 := Ho_w3.out.cell 6 rfl
      have o7 := Ho_w3.out.cell 7 rfl
      have lto := Ho_w3.out.lt
      go_wp2
      try (go_quiet (fail))
      go_wp2
      go_ret
      exact ⟨rfl, (by repeat (first | exact HBE_w3.out | refine below_drawnN ?_ _ | refine below_drawn ?_ | refine below_new ?_ _ | refine below_set ?_ (by first | (simp; done) | (simp; omega)) _))⟩
    | true =>
      have HOKD := Lib.hid hok
      have HOKp := Lib.hid (of_decide_eq_true hok)
      clear hok
      go_wp2_with fail
      refine (packet_any (⟨pf, ps, pn, pd, pz, pt, pa, false⟩ : Ea.Pkt) _).mono ?_
      rw [HOKD.out]
      rintro e w3 ⟨rfl, hb⟩
      have HBE_w3 : RowKit.Hid (Below W.heap.size W w3) := Lib.hid (below_on (by repeat (first | exact HBE_w2.out | refine below_drawnN ?_ _ | refine below_drawn ?_ | refine below_new ?_ _)) hb)
      have Hq_w3 : RowKit.Hid (Blk w3 W.heap.size [.int .i64 2, .int .i64 A, .int .i64 B, .int .i64 C, .int .i64 room, .slice (some ad) 1 lc, .int .i64 v0, .int .i64 0, .int .i64 0, .int .i64 0, .int .i64 0, .int .i64 0, .int .i64 0, .int .i64 v7, .int .u64 (s : Int)]) := Lib.hid ((Hq_w2.out.below (by (repeat (first | exact Below.refl _ _ | refine below_drawnN ?_ _ | refine below_drawn ?_ | refine below_new ?_ _)))).below hb)
      have Hp_w3 : RowKit.Hid (Blk w3 (W.heap.size + 1) [.int .i64 pf, .int .i64 ps, .int .i64 pn, .int .i64 pd, .int .i64 pz, .int .i64 pt, .bool pa, .bool false]) := Lib.hid ((Hp_w2.out.below (by (repeat (first | exact Below.refl _ _ | refine below_drawnN ?_ _ | refine below_drawn ?_ | refine below_new ?_ _)))).below hb)
      have Ho_w3 : RowKit.Hid (Blk w3 (W.heap.size + 1 + 1) [.int .i64 of, .int .i64 os, .int .i64 on, .int .i64 od, .int .i64 oz, .int .i64 ot, .bool oa, .bool false]) := Lib.hid ((Ho_w2.out.below (by (repeat (first | exact Below.refl _ _ | refine below_drawnN ?_ _ | refine below_drawn ?_ | refine below_new ?_ _)))).below hb)
      have had_n : w3.cell? ad = some (.slice a xs.length c) := below_cell_of hb (below_cell_of (by (repeat (first | exact Below.refl _ _ | refine below_drawnN ?_ _ | refine below_drawn ?_ | refine below_new ?_ _))) had)
      have HHH_w3 : RowKit.Hid (HoldsL w3 ad xs) := Lib.hid ((HHH_w2.out.below (by (repeat (first | exact Below.refl _ _ | refine below_drawnN ?_ _ | refine below_drawn ?_ | refine below_new ?_ _)))).below hb)
      have HTT_w3 : RowKit.Hid (Table w3) := Lib.hid (table_below (table_below HTT_w2.out (by (repeat (first | exact Below.refl _ _ | refine below_drawnN ?_ _ | refine below_drawn ?_ | refine below_new ?_ _)))) hb)
      clear hb q0 q1 q2 q3 q4 q5 q6 q7 q8 q9 q10 q11 q12 q13 q14 ltq p0 p1 p2 p3 p4 p5 p6 p7 ltp o0 o1 o2 o3 o4 o5 o6 o7 lto had lthad HBE_w2 Hq_w2 Hp_w2 Ho_w2 HHH_w2 HTT_w2
      have had := had_n
      clear had_n
      have lthad := World.block_lt_of_cell? _ _ had
      have q0 := Hq_w3.out.cell 0 rfl
      have q1 := Hq_w3.out.cell 1 rfl
      have q2 := Hq_w3.out.cell 2 rfl
      have q3 := Hq_w3.out.cell 3 rfl
      have q4 := Hq_w3.out.cell 4 rfl
      have q5 := Hq_w3.out.cell 5 rfl
      have q6 := Hq_w3.out.cell 6 rfl
      have q7 := Hq_w3.out.cell 7 rfl
      have q8 := Hq_w3.out.cell 8 rfl
      have q9 := Hq_w3.out.cell 9 rfl
      have q10 := Hq_w3.out.cell 10 rfl
      have q11 := Hq_w3.out.cell 11 rfl
      have q12 := Hq_w3.out.cell 12 rfl
      have q13 := Hq_w3.out.cell 13 rfl
      have q14 := Hq_w3.out.cell 14 rfl
      have ltq := Hq_w3.out.lt
      have p0 := Hp_w3.out.cell 0 rfl
      have p1 := Hp_w3.out.cell 1 rfl
      have p2 := Hp_w3.out.cell 2 rfl
      have p3 := Hp_w3.out.cell 3 rfl
      have p4 := Hp_w3.out.cell 4 rfl
      have p5 := Hp_w3.out.cell 5 rfl
      have p6 := Hp_w3.out.cell 6 rfl
      have p7 := Hp_w3.out.cell 7 rfl
      have ltp := Hp_w3.out.lt
      have o0 := Ho_w3.out.cell 0 rfl
      have o1 := Ho_w3.out.cell 1 rfl
      have o2 := Ho_w3.out.cell 2 rfl
      have o3 := Ho_w3.out.cell 3 rfl
      have o4 := Ho_w3.out.cell 4 rfl
      have o5 := Ho_w3.out.cell 5 rfl
      have o6 := Ho_w3.out.cell 6 rfl
      have o7 := Ho_w3.out.cell 7 rfl
      have lto := Ho_w3.out.lt
      clear HOKD
      cases hok : decide (⟨of, os, on, od, oz, ot, oa, false⟩ : Ea.Pkt).ok with
      | false =>
        have HOK := Lib.hid hok
        clear hok
        go_wp2_with fail
        refine (packet_any (⟨of, os, on, od, oz, ot, oa, false⟩ : Ea.Pkt) _).mono ?_
        rw [HOK.out]
        rintro e w4 ⟨rfl, hb⟩
        have HBE_w4 : RowKit.Hid (Below W.heap.size W w4) := Lib.hid (below_on (by repeat (first | exact HBE_w3.out | refine below_drawnN ?_ _ | refine below_drawn ?_ | refine below_new ?_ _)) hb)
        have Hq_w4 : RowKit.Hid (Blk w4 W.heap.size [.int .i64 2, .int .i64 A, .int .i64 B, .int .i64 C, .int .i64 room, .slice (some ad) 1 lc, .int .i64 v0, .int .i64 0, .int .i64 0, .int .i64 0, .int .i64 0, .int .i64 0, .int .i64 0, .int .i64 v7, .int .u64 (s : Int)]) := Lib.hid ((Hq_w3.out.below (by (repeat (first | exact Below.refl _ _ | refine below_drawnN ?_ _ | refine below_drawn ?_ | refine below_new ?_ _)))).below hb)
        have Hp_w4 : RowKit.Hid (Blk w4 (W.heap.size + 1) [.int .i64 pf, .int .i64 ps, .int .i64 pn, .int .i64 pd, .int .i64 pz, .int .i64 pt, .bool pa, .bool false]) := Lib.hid ((Hp_w3.out.below (by (repeat (first | exact Below.refl _ _ | refine below_drawnN ?_ _ | refine below_drawn ?_ | refine below_new ?_ _)))).below hb)
        have Ho_w4 : RowKit.Hid (Blk w4 (W.heap.size + 1 + 1) [.int .i64 of, .int .i64 os, .int .i64 on, .int .i64 od, .int .i64 oz, .int .i64 ot, .bool oa, .bool false]) := Lib.hid ((Ho_w3.out.below (by (repeat (first | exact Below.refl _ _ | refine below_drawnN ?_ _ | refine below_drawn ?_ | refine below_new ?_ _)))).below hb)
        have had_n : w4.cell? ad = some (.slice a xs.length c) := below_cell_of hb (below_cell_of (by (repeat (first | exact Below.refl _ _ | refine below_drawnN ?_ _ | refine below_drawn ?_ | refine below_new ?_ _))) had)
        have HHH_w4 : RowKit.Hid (HoldsL w4 ad xs) := Lib.hid ((HHH_w3.out.below (by (repeat (first | exact Below.refl _ _ | refine below_drawnN ?_ _ | refine below_drawn ?_ | refine below_new ?_ _)))).below hb)
        have HTT_w4 : RowKit.Hid (Table w4) := Lib.hid (table_below (table_below HTT_w3.out (by (repeat (first | exact Below.refl _ _ | refine below_drawnN ?_ _ | refine below_drawn ?_ | refine below_new ?_ _)))) hb)
        clear hb had lthad q0 q1 q2 q3 q4 q5 q6 q7 q8 q9 q10 q11 q12 q13 q14 ltq p0 p1 p2 p3 p4 p5 p6 p7 ltp o0 o1 o2 o3 o4 o5 o6 o7 lto HBE_w3 Hq_w3 Hp_w3 Ho_w3 HHH_w3 HTT_w3
        have had := had_n
        clear had_n
        have lthad := World.block_lt_of_cell? _ _ had
        have q0 := Hq_w4.out.cell 0 rfl
        have q1 := Hq_w4.out.cell 1 rfl
        have q2 := Hq_w4.out.cell 2 rfl
        have q3 := Hq_w4.out.cell 3 rfl
        have q4 := Hq_w4.out.cell 4 rfl
        have q5 := Hq_w4.out.cell 5 rfl
        have q6 := Hq_w4.out.cell 6 rfl
        have q7 := Hq_w4.out.cell 7 rfl
        have q8 := Hq_w4.out.cell 8 rfl
        have q9 := Hq_w4.out.cell 9 rfl
        have q10 := Hq_w4.out.cell 10 rfl
        have q11 := Hq_w4.out.cell 11 rfl
        have q12 := Hq_w4.out.cell 12 rfl
        have q13 := Hq_w4.out.cell 13 rfl
        have q14 := Hq_w4.out.cell 14 rfl
        have ltq := Hq_w4.out.lt
        have p0 := Hp_w4.out.cell 0 rfl
        have p1 := Hp_w4.out.cell 1 rfl
        have p2 := Hp_w4.out.cell 2 rfl
        have p3 := Hp_w4.out.cell 3 rfl
        have p4 := Hp_w4.out.cell 4 rfl
        have p5 := Hp_w4.out.cell 5 rfl
        have p6 := Hp_w4.out.cell 6 rfl
        have p7 := Hp_w4.out.cell 7 rfl
        have ltp := Hp_w4.out.lt
        have o0 := Ho_w4.out.cell 0 rfl
        have o1 := Ho_w4.out.cell 1 rfl
        have o2 := Ho_w4.out.cell 2 rfl
        have o3 := Ho_w4.out.cell 3 rfl
        have o4 := Ho_w4.out.cell 4 rfl
        have o5 := Ho_w4.out.cell 5 rfl
        have o6 := Ho_w4.out.cell 6 rfl
        have o7 := Ho_w4.out.cell 7 rfl
        have lto := Ho_w4.out.lt
        go_wp2
        try (go_quiet (fail))
        go_wp2
        go_ret
        exact ⟨rfl, (by repeat (first | exact HBE_w4.out | refine below_drawnN ?_ _ | refine below_drawn ?_ | refine below_new ?_ _ | refine below_set ?_ (by first | (simp; done) | (simp; omega)) _))⟩
      | true =>
        have HOKD := Lib.hid hok
        have HOKo := Lib.hid (of_decide_eq_true hok)
        clear hok
        cases htm : decide (0 ≤ now ∧ now ≤ 10000000) with
        | false =>
          have HTM := Lib.hid htm
          clear htm
          go_wp2_with fail
          refine (packet_any (⟨of, os, on, od, oz, ot, oa, false⟩ : Ea.Pkt) _).mono ?_
          rw [HOKD.out]
          rintro e w4 ⟨rfl, hb⟩
          have HBE_w4 : RowKit.Hid (Below W.heap.size W w4) := Lib.hid (below_on (by repeat (first | exact HBE_w3.out | refine below_drawnN ?_ _ | refine below_drawn ?_ | refine below_new ?_ _)) hb)
          have Hq_w4 : RowKit.Hid (Blk w4 W.heap.size [.int .i64 2, .int .i64 A, .int .i64 B, .int .i64 C, .int .i64 room, .slice (some ad) 1 lc, .int .i64 v0, .int .i64 0, .int .i64 0, .int .i64 0, .int .i64 0, .int .i64 0, .int .i64 0, .int .i64 v7, .int .u64 (s : Int)]) := Lib.hid ((Hq_w3.out.below (by (repeat (first | exact Below.refl _ _ | refine below_drawnN ?_ _ | refine below_drawn ?_ | refine below_new ?_ _)))).below hb)
          have Hp_w4 : RowKit.Hid (Blk w4 (W.heap.size + 1) [.int .i64 pf, .int .i64 ps, .int .i64 pn, .int .i64 pd, .int .i64 pz, .int .i64 pt, .bool pa, .bool false]) := Lib.hid ((Hp_w3.out.below (by (repeat (first | exact Below.refl _ _ | refine below_drawnN ?_ _ | refine below_drawn ?_ | refine below_new ?_ _)))).below hb)
          have Ho_w4 : RowKit.Hid (Blk w4 (W.heap.size + 1 + 1) [.int .i64 of, .int .i64 os, .int .i64 on, .int .i64 od, .int .i64 oz, .int .i64 ot, .bool oa, .bool false]) := Lib.hid ((Ho_w3.out.below (by (repeat (first | exact Below.refl _ _ | refine below_drawnN ?_ _ | refine below_drawn ?_ | refine below_new ?_ _)))).below hb)
          have had_n : w4.cell? ad = some (.slice a xs.length c) := below_cell_of hb (below_cell_of (by (repeat (first | exact Below.refl _ _ | refine below_drawnN ?_ _ | refine below_drawn ?_ | refine below_new ?_ _))) had)
          have HHH_w4 : RowKit.Hid (HoldsL w4 ad xs) := Lib.hid ((HHH_w3.out.below (by (repeat (first | exact Below.refl _ _ | refine below_drawnN ?_ _ | refine below_drawn ?_ | refine below_new ?_ _)))).below hb)
          have HTT_w4 : RowKit.Hid (Table w4) := Lib.hid (table_below (table_below HTT_w3.out (by (repeat (first | exact Below.refl _ _ | refine below_drawnN ?_ _ | refine below_drawn ?_ | refine below_new ?_ _)))) hb)
          clear hb had lthad q0 q1 q2 q3 q4 q5 q6 q7 q8 q9 q10 q11 q12 q13 q14 ltq p0 p1 p2 p3 p4 p5 p6 p7 ltp o0 o1 o2 o3 o4 o5 o6 o7 lto HBE_w3 Hq_w3 Hp_w3 Ho_w3 HHH_w3 HTT_w3
          have had := had_n
          clear had_n
          have lthad := World.block_lt_of_cell? _ _ had
          have q0 := Hq_w4.out.cell 0 rfl
          have q1 := Hq_w4.out.cell 1 rfl
          have q2 := Hq_w4.out.cell 2 rfl
          have q3 := Hq_w4.out.cell 3 rfl
          have q4 := Hq_w4.out.cell 4 rfl
          have q5 := Hq_w4.out.cell 5 rfl
          have q6 := Hq_w4.out.cell 6 rfl
          have q7 := Hq_w4.out.cell 7 rfl
          have q8 := Hq_w4.out.cell 8 rfl
          have q9 := Hq_w4.out.cell 9 rfl
          have q10 := Hq_w4.out.cell 10 rfl
          have q11 := Hq_w4.out.cell 11 rfl
          have q12 := Hq_w4.out.cell 12 rfl
          have q13 := Hq_w4.out.cell 13 rfl
          have q14 := Hq_w4.out.cell 14 rfl
          have ltq := Hq_w4.out.lt
          have p0 := Hp_w4.out.cell 0 rfl
          have p1 := Hp_w4.out.cell 1 rfl
          have p2 := Hp_w4.out.cell 2 rfl
          have p3 := Hp_w4.out.cell 3 rfl
          have p4 := Hp_w4.out.cell 4 rfl
          have p5 := Hp_w4.out.cell 5 rfl
          have p6 := Hp_w4.out.cell 6 rfl
          have p7 := Hp_w4.out.cell 7 rfl
          have ltp := Hp_w4.out.lt
          have o0 := Ho_w4.out.cell 0 rfl
          have o1 := Ho_w4.out.cell 1 rfl
          have o2 := Ho_w4.out.cell 2 rfl
          have o3 := Ho_w4.out.cell 3 rfl
          have o4 := Ho_w4.out.cell 4 rfl
          have o5 := Ho_w4.out.cell 5 rfl
          have o6 := Ho_w4.out.cell 6 rfl
          have o7 := Ho_w4.out.cell 7 rfl
          have lto := Ho_w4.out.lt
          go_wp2_with fail
          refine (time_any now _).mono ?_
          rw [HTM.out]
          rintro e w5 ⟨rfl, rfl⟩
          go_wp2
          try (go_quiet (fail))
          go_wp2
          go_ret
          exact ⟨rfl, (by repeat (first | exact HBE_w4.out | refine below_drawnN ?_ _ | refine below_drawn ?_ | refine below_new ?_ _ | refine below_set ?_ (by first | (simp; done) | (simp; omega)) _))⟩
        | true =>
          obtain ⟨n0, n1⟩ := of_decide_eq_true htm
          have HTM := Lib.hid htm
          clear htm
          go_wp2_with fail
          refine (packet_any (⟨of, os, on, od, oz, ot, oa, false⟩ : Ea.Pkt) _).mono ?_
          rw [HOKD.out]
          rintro e w4 ⟨rfl, hb⟩
          have HBE_w4 : RowKit.Hid (Below W.heap.size W w4) := Lib.hid (below_on (by repeat (first | exact HBE_w3.out | refine below_drawnN ?_ _ | refine below_drawn ?_ | refine below_new ?_ _)) hb)
          have Hq_w4 : RowKit.Hid (Blk w4 W.heap.size [.int .i64 2, .int .i64 A, .int .i64 B, .int .i64 C, .int .i64 room, .slice (some ad) 1 lc, .int .i64 v0, .int .i64 0, .int .i64 0, .int .i64 0, .int .i64 0, .int .i64 0, .int .i64 0, .int .i64 v7, .int .u64 (s : Int)]) := Lib.hid ((Hq_w3.out.below (by (repeat (first | exact Below.refl _ _ | refine below_drawnN ?_ _ | refine below_drawn ?_ | refine below_new ?_ _)))).below hb)
          have Hp_w4 : RowKit.Hid (Blk w4 (W.heap.size + 1) [.int .i64 pf, .int .i64 ps, .int .i64 pn, .int .i64 pd, .int .i64 pz, .int .i64 pt, .bool pa, .bool false]) := Lib.hid ((Hp_w3.out.below (by (repeat (first | exact Below.refl _ _ | refine below_drawnN ?_ _ | refine below_drawn ?_ | refine below_new ?_ _)))).below hb)
          have Ho_w4 : RowKit.Hid (Blk w4 (W.heap.size + 1 + 1) [.int .i64 of, .int .i64 os, .int .i64 on, .int .i64 od, .int .i64 oz, .int .i64 ot, .bool oa, .bool false]) := Lib.hid ((Ho_w3.out.below (by (repeat (first | exact Below.refl _ _ | refine below_drawnN ?_ _ | refine below_drawn ?_ | refine below_new ?_ _)))).below hb)
          have had_n : w4.cell? ad = some (.slice a xs.length c) := below_cell_of hb (below_cell_of (by (repeat (first | exact Below.refl _ _ | refine below_drawnN ?_ _ | refine below_drawn ?_ | refine below_new ?_ _))) had)
          have HHH_w4 : RowKit.Hid (HoldsL w4 ad xs) := Lib.hid ((HHH_w3.out.below (by (repeat (first | exact Below.refl _ _ | refine below_drawnN ?_ _ | refine below_drawn ?_ | refine below_new ?_ _)))).below hb)
          have HTT_w4 : RowKit.Hid (Table w4) := Lib.hid (table_below (table_below HTT_w3.out (by (repeat (first | exact Below.refl _ _ | refine below_drawnN ?_ _ | refine below_drawn ?_ | refine below_new ?_ _)))) hb)
          clear hb had lthad q0 q1 q2 q3 q4 q5 q6 q7 q8 q9 q10 q11 q12 q13 q14 ltq p0 p1 p2 p3 p4 p5 p6 p7 ltp o0 o1 o2 o3 o4 o5 o6 o7 lto HBE_w3 Hq_w3 Hp_w3 Ho_w3 HHH_w3 HTT_w3
          have had := had_n
          clear had_n
          have lthad := World.block_lt_of_cell? _ _ had
          have q0 := Hq_w4.out.cell 0 rfl
          have q1 := Hq_w4.out.cell 1 rfl
          have q2 := Hq_w4.out.cell 2 rfl
          have q3 := Hq_w4.out.cell 3 rfl
          have q4 := Hq_w4.out.cell 4 rfl
          have q5 := Hq_w4.out.cell 5 rfl
          have q6 := Hq_w4.out.cell 6 rfl
          have q7 := Hq_w4.out.cell 7 rfl
          have q8 := Hq_w4.out.cell 8 rfl
          have q9 := Hq_w4.out.cell 9 rfl
          have q10 := Hq_w4.out.cell 10 rfl
          have q11 := Hq_w4.out.cell 11 rfl
          have q12 := Hq_w4.out.cell 12 rfl
          have q13 := Hq_w4.out.cell 13 rfl
          have q14 := Hq_w4.out.cell 14 rfl
          have ltq := Hq_w4.out.lt
          have p0 := Hp_w4.out.cell 0 rfl
          have p1 := Hp_w4.out.cell 1 rfl
          have p2 := Hp_w4.out.cell 2 rfl
          have p3 := Hp_w4.out.cell 3 rfl
          have p4 := Hp_w4.out.cell 4 rfl
          have p5 := Hp_w4.out.cell 5 rfl
          have p6 := Hp_w4.out.cell 6 rfl
          have p7 := Hp_w4.out.cell 7 rfl
          have ltp := Hp_w4.out.lt
          have o0 := Ho_w4.out.cell 0 rfl
          have o1 := Ho_w4.out.cell 1 rfl
          have o2 := Ho_w4.out.cell 2 rfl
          have o3 := Ho_w4.out.cell 3 rfl
          have o4 := Ho_w4.out.cell 4 rfl
          have o5 := Ho_w4.out.cell 5 rfl
          have o6 := Ho_w4.out.cell 6 rfl
          have o7 := Ho_w4.out.cell 7 rfl
          have lto := Ho_w4.out.lt
          clear HOKD
          go_wp2_with fail
          refine (time_any now _).mono ?_
          rw [HTM.out]
          rintro e wt ⟨rfl, he⟩
          obtain rfl : w4 = wt := he.symm
          clear HTM
          by_cases c1 : now < v7
          · have dc1 : decide (now < v7) = true := decide_eq_true c1
            go_wp2
            try (go_quiet (fail))
            go_wp2
            go_ret
            exact ⟨rfl, (by repeat (first | exact HBE_w4.out | refine below_drawnN ?_ _ | refine below_drawn ?_ | refine below_new ?_ _ | refine below_set ?_ (by first | (simp; done) | (simp; omega)) _))⟩
          have dc1 : decide (now < v7) = false := decide_eq_false c1
          by_cases c2 : (xs.length : Int) = room
          · have dc2 : ((xs.length : Int) == room) = true := by simp [c2]
            have Hc2 := Lib.hid c2
            clear c2
            go_wp2
            try (go_quiet (fail))
            go_wp2
            go_ret
            exact ⟨rfl, (by repeat (first | exact HBE_w4.out | refine below_drawnN ?_ _ | refine below_drawn ?_ | refine below_new ?_ _ | refine below_set ?_ (by first | (simp; done) | (simp; omega)) _))⟩
          have dc2 : ((xs.length : Int) == room) = false := by simp [c2]
          have hxl := HQO.out.short
          have ha1 := HQO.out.a0
          have ha2 := HQO.out.ab
          have ha3 := HQO.out.b1
          obtain ⟨z, hz⟩ : ∃ z, Ea.avg v0 xs.length (2 ^ C.toNat) = z := ⟨_, rfl⟩
          have HZ := Lib.hid hz
          clear hz
          obtain ⟨what, s1, hv⟩ : ∃ a b, Ea.verdict A B xs.length room z s = (a, b) := ⟨_, _, rfl⟩
          have hw : (what = 0 ∧ z < 1024 * B) ∨ what = 1 := always_one c2 ha2 hv
          have hput := fun V h1 h2 => put_any A B C room ad lc v0 v7 s xs V h1 HQO.out h2 (⟨pf, ps, pn, pd, pz, pt, pa, false⟩ : Ea.Pkt) HOKp.out now (by omega) n1 what s1 (by rw [HZ.out]; exact hv)
          have hfa := fun V h1 h2 => fate_any A B C room ad lc v0 v7 s xs V h1 HQO.out h2 (⟨pf, ps, pn, pd, pz, pt, pa, false⟩ : Ea.Pkt) HOKp.out now (by omega) n1 what s1 (by rw [HZ.out]; exact hv)
          have hfb := fun V h1 h2 => fate_any A B C room ad lc v0 v7 s xs V h1 HQO.out h2 (⟨of, os, on, od, oz, ot, oa, false⟩ : Ea.Pkt) HOKo.out now (by omega) n1 what s1 (by rw [HZ.out]; exact hv)
          rw [HZ.out] at hput
          have hcase := always_cases hw pa oa
          obtain ⟨fa, efa⟩ : ∃ x, Ea.fated what pa false = x := ⟨_, rfl⟩
          obtain ⟨fb, efb⟩ : ∃ x, Ea.fated what oa false = x := ⟨_, rfl⟩
          simp only [efa, efb] at hfa hfb hcase
          have HPUT := Lib.hid hput
          have HFA := Lib.hid hfa
          have HFB := Lib.hid hfb
          have HCASE := Lib.hid hcase
          clear hput hfa hfb hcase hv hw efa efb c2
          go_wp2
          go_quiet (fail)
          go_wp2_with fail
          refine (HPUT.out _ (by exact HHH_w4.out) (by exact HTT_w4.out)).mono ?_
          rintro e w5 ⟨ad5, out, rfl, hb, _, _⟩
          have HBE_w5 : RowKit.Hid (Below W.heap.size W w5) := Lib.hid (below_on (by repeat (first | exact HBE_w4.out | refine below_drawnN ?_ _ | refine below_drawn ?_ | refine below_new ?_ _)) hb)
          have Hq_w5 : RowKit.Hid (Blk w5 W.heap.size [.int .i64 2, .int .i64 A, .int .i64 B, .int .i64 C, .int .i64 room, .slice (some ad) 1 lc, .int .i64 v0, .int .i64 0, .int .i64 0, .int .i64 0, .int .i64 0, .int .i64 0, .int .i64 0, .int .i64 v7, .int .u64 (s : Int)]) := Lib.hid ((Hq_w4.out.below (by (repeat (first | exact Below.refl _ _ | refine below_drawnN ?_ _ | refine below_drawn ?_ | refine below_new ?_ _)))).below hb)
          have Hp_w5 : RowKit.Hid (Blk w5 (W.heap.size + 1) [.int .i64 pf, .int .i64 ps, .int .i64 pn, .int .i64 pd, .int .i64 pz, .int .i64 pt, .bool pa, .bool false]) := Lib.hid ((Hp_w4.out.below (by (repeat (first | exact Below.refl _ _ | refine below_drawnN ?_ _ | refine below_drawn ?_ | refine below_new ?_ _)))).below hb)
          have Ho_w5 : RowKit.Hid (Blk w5 (W.heap.size + 1 + 1) [.int .i64 of, .int .i64 os, .int .i64 on, .int .i64 od, .int .i64 oz, .int .i64 ot, .bool oa, .bool false]) := Lib.hid ((Ho_w4.out.below (by (repeat (first | exact Below.refl _ _ | refine below_drawnN ?_ _ | refine below_drawn ?_ | refine below_new ?_ _)))).below hb)
          have had_n : w5.cell? ad = some (.slice a xs.length c) := below_cell_of hb (below_cell_of (by (repeat (first | exact Below.refl _ _ | refine below_drawnN ?_ _ | refine below_drawn ?_ | refine below_new ?_ _))) had)
          have HHH_w5 : RowKit.Hid (HoldsL w5 ad xs) := Lib.hid ((HHH_w4.out.below (by (repeat (first | exact Below.refl _ _ | refine below_drawnN ?_ _ | refine below_drawn ?_ | refine below_new ?_ _)))).below hb)
          have HTT_w5 : RowKit.Hid (Table w5) := Lib.hid (table_below (table_below HTT_w4.out (by (repeat (first | exact Below.refl _ _ | refine below_drawnN ?_ _ | refine below_drawn ?_ | refine below_new ?_ _)))) hb)
          clear hb had lthad q0 q1 q2 q3 q4 q5 q6 q7 q8 q9 q10 q11 q12 q13 q14 ltq p0 p1 p2 p3 p4 p5 p6 p7 ltp o0 o1 o2 o3 o4 o5 o6 o7 lto HBE_w4 Hq_w4 Hp_w4 Ho_w4 HHH_w4 HTT_w4
          have had := had_n
          clear had_n
          have lthad := World.block_lt_of_cell? _ _ had
          have q0 := Hq_w5.out.cell 0 rfl
          have q1 := Hq_w5.out.cell 1 rfl
          have q2 := Hq_w5.out.cell 2 rfl
          have q3 := Hq_w5.out.cell 3 rfl
          have q4 := Hq_w5.out.cell 4 rfl
          have q5 := Hq_w5.out.cell 5 rfl
          have q6 := Hq_w5.out.cell 6 rfl
          have q7 := Hq_w5.out.cell 7 rfl
          have q8 := Hq_w5.out.cell 8 rfl
          have q9 := Hq_w5.out.cell 9 rfl
          have q10 := Hq_w5.out.cell 10 rfl
          have q11 := Hq_w5.out.cell 11 rfl
          have q12 := Hq_w5.out.cell 12 rfl
          have q13 := Hq_w5.out.cell 13 rfl
          have q14 := Hq_w5.out.cell 14 rfl
          have ltq := Hq_w5.out.lt
          have p0 := Hp_w5.out.cell 0 rfl
          have p1 := Hp_w5.out.cell 1 rfl
          have p2 := Hp_w5.out.cell 2 rfl
          have p3 := Hp_w5.out.cell 3 rfl
          have p4 := Hp_w5.out.cell 4 rfl
          have p5 := Hp_w5.out.cell 5 rfl
          have p6 := Hp_w5.out.cell 6 rfl
          have p7 := Hp_w5.out.cell 7 rfl
          have ltp := Hp_w5.out.lt
          have o0 := Ho_w5.out.cell 0 rfl
          have o1 := Ho_w5.out.cell 1 rfl
          have o2 := Ho_w5.out.cell 2 rfl
          have o3 := Ho_w5.out.cell 3 rfl
          have o4 := Ho_w5.out.cell 4 rfl
          have o5 := Ho_w5.out.cell 5 rfl
          have o6 := Ho_w5.out.cell 6 rfl
          have o7 := Ho_w5.out.cell 7 rfl
          have lto := Ho_w5.out.lt
          clear HPUT
          go_wp2_with (first | (refine wpList_load_mid rfl 28 _ rfl W.heap.size 0 rfl [.int .i64 2, .int .i64 A, .int .i64 B, .int .i64 C, .int .i64 room, .slice (some ad) 1 lc, .int .i64 v0, .int .i64 0, .int .i64 0, .int .i64 0, .int .i64 0, .int .i64 0, .int .i64 0, .int .i64 v7, .int .u64 (s : Int)] _ (Hq_w5.out.below (by (repeat (first | exact Below.refl _ _ | refine below_drawnN ?_ _ | refine below_drawn ?_ | refine below_new ?_ _)))).range Tryd.underlying28 rfl (by kernel_rfl) ?_) | (refine wpList_load_mid rfl 35 _ rfl (W.heap.size + 1) 0 rfl [.int .i64 pf, .int .i64 ps, .int .i64 pn, .int .i64 pd, .int .i64 pz, .int .i64 pt, .bool pa, .bool false] _ (Hp_w5.out.below (by (repeat (first | exact Below.refl _ _ | refine below_drawnN ?_ _ | refine below_drawn ?_ | refine below_new ?_ _)))).range Tryd.underlying35 rfl (by kernel_rfl) ?_) | (refine wpList_store_new rfl 28 _ _ rfl _ #[.int .i64 2, .int .i64 A, .int .i64 B, .int .i64 C, .int .i64 room, .slice (some ad5) 1 1, .int .i64 z, .int .i64 0, .int .i64 0, .int .i64 0, .int .i64 0, .int .i64 0, .int .i64 0, .int .i64 now, .int .u64 (s1 : Int)] rfl rfl (by kernel_rfl) rfl rfl ?_))
          refine (HFA.out _ (HHH_w5.out.below (by exact (by (repeat (first | exact Below.refl _ _ | refine below_drawnN ?_ _ | refine below_drawn ?_ | refine below_new ?_ _))))) (table_below HTT_w5.out (by (repeat (first | exact Below.refl _ _ | refine below_drawnN ?_ _ | refine below_drawn ?_ | refine below_new ?_ _))))).mono ?_
          rintro e w6 ⟨rfl, hb⟩
          have HBE_w6 : RowKit.Hid (Below W.heap.size W w6) := Lib.hid (below_on (by repeat (first | exact HBE_w5.out | refine below_drawnN ?_ _ | refine below_drawn ?_ | refine below_new ?_ _)) hb)
          have Hq_w6 : RowKit.Hid (Blk w6 W.heap.size [.int .i64 2, .int .i64 A, .int .i64 B, .int .i64 C, .int .i64 room, .slice (some ad) 1 lc, .int .i64 v0, .int .i64 0, .int .i64 0, .int .i64 0, .int .i64 0, .int .i64 0, .int .i64 0, .int .i64 v7, .int .u64 (s : Int)]) := Lib.hid ((Hq_w5.out.below (by (repeat (first | exact Below.refl _ _ | refine below_drawnN ?_ _ | refine below_drawn ?_ | refine below_new ?_ _)))).below hb)
          have Hp_w6 : RowKit.Hid (Blk w6 (W.heap.size + 1) [.int .i64 pf, .int .i64 ps, .int .i64 pn, .int .i64 pd, .int .i64 pz, .int .i64 pt, .bool pa, .bool false]) := Lib.hid ((Hp_w5.out.below (by (repeat (first | exact Below.refl _ _ | refine below_drawnN ?_ _ | refine below_drawn ?_ | refine below_new ?_ _)))).below hb)
          have Ho_w6 : RowKit.Hid (Blk w6 (W.heap.size + 1 + 1) [.int .i64 of, .int .i64 os, .int .i64 on, .int .i64 od, .int .i64 oz, .int .i64 ot, .bool oa, .bool false]) := Lib.hid ((Ho_w5.out.below (by (repeat (first | exact Below.refl _ _ | refine below_drawnN ?_ _ | refine below_drawn ?_ | refine below_new ?_ _)))).below hb)
          have had_n : w6.cell? ad = some (.slice a xs.length c) := below_cell_of hb (below_cell_of (by (repeat (first | exact Below.refl _ _ | refine below_drawnN ?_ _ | refine below_drawn ?_ | refine below_new ?_ _))) had)
          have HHH_w6 : RowKit.Hid (HoldsL w6 ad xs) := Lib.hid ((HHH_w5.out.below (by (repeat (first | exact Below.refl _ _ | refine below_drawnN ?_ _ | refine below_drawn ?_ | refine below_new ?_ _)))).below hb)
          have HTT_w6 : RowKit.Hid (Table w6) := Lib.hid (table_below (table_below HTT_w5.out (by (repeat (first | exact Below.refl _ _ | refine below_drawnN ?_ _ | refine below_drawn ?_ | refine below_new ?_ _)))) hb)
          have Hm_w6 : RowKit.Hid (Blk w6 w5.heap.size [.int .i64 2, .int .i64 A, .int .i64 B, .int .i64 C, .int .i64 room, .slice (some ad5) 1 1, .int .i64 z, .int .i64 0, .int .i64 0, .int .i64 0, .int .i64 0, .int .i64 0, .int .i64 0, .int .i64 now, .int .u64 (s1 : Int)]) := Lib.hid (((blk_new_at w5 #[.int .i64 2, .int .i64 A, .int .i64 B, .int .i64 C, .int .i64 room, .slice (some ad5) 1 1, .int .i64 z, .int .i64 0, .int .i64 0, .int .i64 0, .int .i64 0, .int .i64 0, .int .i64 0, .int .i64 now, .int .u64 (s1 : Int)] 28 rfl).below (by (repeat (first | exact Below.refl _ _ | refine below_drawnN ?_ _ | refine below_drawn ?_ | refine below_new ?_ _)))).below hb)
          clear hb had lthad q0 q1 q2 q3 q4 q5 q6 q7 q8 q9 q10 q11 q12 q13 q14 ltq p0 p1 p2 p3 p4 p5 p6 p7 ltp o0 o1 o2 o3 o4 o5 o6 o7 lto HBE_w5 Hq_w5 Hp_w5 Ho_w5 HHH_w5 HTT_w5
          have had := had_n
          clear had_n
          have lthad := World.block_lt_of_cell? _ _ had
          have q0 := Hq_w6.out.cell 0 rfl
          have q1 := Hq_w6.out.cell 1 rfl
          have q2 := Hq_w6.out.cell 2 rfl
          have q3 := Hq_w6.out.cell 3 rfl
          have q4 := Hq_w6.out.cell 4 rfl
          have q5 := Hq_w6.out.cell 5 rfl
          have q6 := Hq_w6.out.cell 6 rfl
          have q7 := Hq_w6.out.cell 7 rfl
          have q8 := Hq_w6.out.cell 8 rfl
          have q9 := Hq_w6.out.cell 9 rfl
          have q10 := Hq_w6.out.cell 10 rfl
          have q11 := Hq_w6.out.cell 11 rfl
          have q12 := Hq_w6.out.cell 12 rfl
          have q13 := Hq_w6.out.cell 13 rfl
          have q14 := Hq_w6.out.cell 14 rfl
          have ltq := Hq_w6.out.lt
          have p0 := Hp_w6.out.cell 0 rfl
          have p1 := Hp_w6.out.cell 1 rfl
          have p2 := Hp_w6.out.cell 2 rfl
          have p3 := Hp_w6.out.cell 3 rfl
          have p4 := Hp_w6.out.cell 4 rfl
          have p5 := Hp_w6.out.cell 5 rfl
          have p6 := Hp_w6.out.cell 6 rfl
          have p7 := Hp_w6.out.cell 7 rfl
          have ltp := Hp_w6.out.lt
          have o0 := Ho_w6.out.cell 0 rfl
          have o1 := Ho_w6.out.cell 1 rfl
          have o2 := Ho_w6.out.cell 2 rfl
          have o3 := Ho_w6.out.cell 3 rfl
          have o4 := Ho_w6.out.cell 4 rfl
          have o5 := Ho_w6.out.cell 5 rfl
          have o6 := Ho_w6.out.cell 6 rfl
          have o7 := Ho_w6.out.cell 7 rfl
          have lto := Ho_w6.out.lt
          have m6 := Hm_w6.out.cell 6 rfl
          have ltm := Hm_w6.out.lt
          clear HFA
          go_wp2_with (first | (refine wpList_load_mid rfl 28 _ rfl W.heap.size 0 rfl [.int .i64 2, .int .i64 A, .int .i64 B, .int .i64 C, .int .i64 room, .slice (some ad) 1 lc, .int .i64 v0, .int .i64 0, .int .i64 0, .int .i64 0, .int .i64 0, .int .i64 0, .int .i64 0, .int .i64 v7, .int .u64 (s : Int)] _ (Hq_w6.out.below (by (repeat (first | exact Below.refl _ _ | refine below_drawnN ?_ _ | refine below_drawn ?_ | refine below_new ?_ _)))).range Tryd.underlying28 rfl (by kernel_rfl) ?_) | (refine wpList_load_mid rfl 35 _ rfl (W.heap.size + 1 + 1) 0 rfl [.int .i64 of, .int .i64 os, .int .i64 on, .int .i64 od, .int .i64 oz, .int .i64 ot, .bool oa, .bool false] _ (Ho_w6.out.below (by (repeat (first | exact Below.refl _ _ | refine below_drawnN ?_ _ | refine below_drawn ?_ | refine below_new ?_ _)))).range Tryd.underlying35 rfl (by kernel_rfl) ?_))
          refine (HFB.out _ (HHH_w6.out.below (by exact (by (repeat (first | exact Below.refl _ _ | refine below_drawnN ?_ _ | refine below_drawn ?_ | refine below_new ?_ _))))) (table_below HTT_w6.out (by (repeat (first | exact Below.refl _ _ | refine below_drawnN ?_ _ | refine below_drawn ?_ | refine below_new ?_ _))))).mono ?_
          rintro e w7 ⟨rfl, hb⟩
          have HBE_w7 : RowKit.Hid (Below W.heap.size W w7) := Lib.hid (below_on (by repeat (first | exact HBE_w6.out | refine below_drawnN ?_ _ | refine below_drawn ?_ | refine below_new ?_ _)) hb)
          have Hq_w7 : RowKit.Hid (Blk w7 W.heap.size [.int .i64 2, .int .i64 A, .int .i64 B, .int .i64 C, .int .i64 room, .slice (some ad) 1 lc, .int .i64 v0, .int .i64 0, .int .i64 0, .int .i64 0, .int .i64 0, .int .i64 0, .int .i64 0, .int .i64 v7, .int .u64 (s : Int)]) := Lib.hid ((Hq_w6.out.below (by (repeat (first | exact Below.refl _ _ | refine below_drawnN ?_ _ | refine below_drawn ?_ | refine below_new ?_ _)))).below hb)
          have Hp_w7 : RowKit.Hid (Blk w7 (W.heap.size + 1) [.int .i64 pf, .int .i64 ps, .int .i64 pn, .int .i64 pd, .int .i64 pz, .int .i64 pt, .bool pa, .bool false]) := Lib.hid ((Hp_w6.out.below (by (repeat (first | exact Below.refl _ _ | refine below_drawnN ?_ _ | refine below_drawn ?_ | refine below_new ?_ _)))).below hb)
          have Ho_w7 : RowKit.Hid (Blk w7 (W.heap.size + 1 + 1) [.int .i64 of, .int .i64 os, .int .i64 on, .int .i64 od, .int .i64 oz, .int .i64 ot, .bool oa, .bool false]) := Lib.hid ((Ho_w6.out.below (by (repeat (first | exact Below.refl _ _ | refine below_drawnN ?_ _ | refine below_drawn ?_ | refine below_new ?_ _)))).below hb)
          have Hm_w7 : RowKit.Hid (Blk w7 w5.heap.size [.int .i64 2, .int .i64 A, .int .i64 B, .int .i64 C, .int .i64 room, .slice (some ad5) 1 1, .int .i64 z, .int .i64 0, .int .i64 0, .int .i64 0, .int .i64 0, .int .i64 0, .int .i64 0, .int .i64 now, .int .u64 (s1 : Int)]) := Lib.hid ((Hm_w6.out.below (by (repeat (first | exact Below.refl _ _ | refine below_drawnN ?_ _ | refine below_drawn ?_ | refine below_new ?_ _)))).below hb)
          have had_n : w7.cell? ad = some (.slice a xs.length c) := below_cell_of hb (below_cell_of (by (repeat (first | exact Below.refl _ _ | refine below_drawnN ?_ _ | refine below_drawn ?_ | refine below_new ?_ _))) had)
          have HHH_w7 : RowKit.Hid (HoldsL w7 ad xs) := Lib.hid ((HHH_w6.out.below (by (repeat (first | exact Below.refl _ _ | refine below_drawnN ?_ _ | refine below_drawn ?_ | refine below_new ?_ _)))).below hb)
          have HTT_w7 : RowKit.Hid (Table w7) := Lib.hid (table_below (table_below HTT_w6.out (by (repeat (first | exact Below.refl _ _ | refine below_drawnN ?_ _ | refine below_drawn ?_ | refine below_new ?_ _)))) hb)
          clear hb had lthad q0 q1 q2 q3 q4 q5 q6 q7 q8 q9 q10 q11 q12 q13 q14 ltq p0 p1 p2 p3 p4 p5 p6 p7 ltp o0 o1 o2 o3 o4 o5 o6 o7 lto m6 ltm HBE_w6 Hq_w6 Hp_w6 Ho_w6 Hm_w6 HHH_w6 HTT_w6
          have had := had_n
          clear had_n
          have lthad := World.block_lt_of_cell? _ _ had
          have q0 := Hq_w7.out.cell 0 rfl
          have q1 := Hq_w7.out.cell 1 rfl
          have q2 := Hq_w7.out.cell 2 rfl
          have q3 := Hq_w7.out.cell 3 rfl
          have q4 := Hq_w7.out.cell 4 rfl
          have q5 := Hq_w7.out.cell 5 rfl
          have q6 := Hq_w7.out.cell 6 rfl
          have q7 := Hq_w7.out.cell 7 rfl
          have q8 := Hq_w7.out.cell 8 rfl
          have q9 := Hq_w7.out.cell 9 rfl
          have q10 := Hq_w7.out.cell 10 rfl
          have q11 := Hq_w7.out.cell 11 rfl
          have q12 := Hq_w7.out.cell 12 rfl
          have q13 := Hq_w7.out.cell 13 rfl
          have q14 := Hq_w7.out.cell 14 rfl
          have ltq := Hq_w7.out.lt
          have p0 := Hp_w7.out.cell 0 rfl
          have p1 := Hp_w7.out.cell 1 rfl
          have p2 := Hp_w7.out.cell 2 rfl
          have p3 := Hp_w7.out.cell 3 rfl
          have p4 := Hp_w7.out.cell 4 rfl
          have p5 := Hp_w7.out.cell 5 rfl
          have p6 := Hp_w7.out.cell 6 rfl
          have p7 := Hp_w7.out.cell 7 rfl
          have ltp := Hp_w7.out.lt
          have o0 := Ho_w7.out.cell 0 rfl
          have o1 := Ho_w7.out.cell 1 rfl
          have o2 := Ho_w7.out.cell 2 rfl
          have o3 := Ho_w7.out.cell 3 rfl
          have o4 := Ho_w7.out.cell 4 rfl
          have o5 := Ho_w7.out.cell 5 rfl
          have o6 := Ho_w7.out.cell 6 rfl
          have o7 := Ho_w7.out.cell 7 rfl
          have lto := Ho_w7.out.lt
          have m6 := Hm_w7.out.cell 6 rfl
          have ltm := Hm_w7.out.lt
          clear HFB
          rcases HCASE.out with ⟨rfl, rfl, hzb⟩ | ⟨rfl, hb2, rfl⟩ | ⟨rfl, hb2, rfl⟩ | ⟨rfl, hb2, rfl⟩ | ⟨rfl, hb2, rfl⟩
          · have dz : decide (1024 * B ≤ z) = false := decide_eq_false (by omega)
            go_wp2
            all_goals (go_ret; exact ⟨ret_bool (by simp), (by repeat (first | exact HBE_w7.out | refine below_drawnN ?_ _ | refine below_drawn ?_ | refine below_new ?_ _ | refine below_set ?_ (by first | (simp; done) | (simp; omega)) _))⟩)
          · subst hb2
            go_wp2
            all_goals (go_ret; exact ⟨ret_bool (by simp), (by repeat (first | exact HBE_w7.out | refine below_drawnN ?_ _ | refine below_drawn ?_ | refine below_new ?_ _ | refine below_set ?_ (by first | (simp; done) | (simp; omega)) _))⟩)
          · subst hb2
            go_wp2
            all_goals (go_ret; exact ⟨ret_bool (by simp), (by repeat (first | exact HBE_w7.out | refine below_drawnN ?_ _ | refine below_drawn ?_ | refine below_new ?_ _ | refine below_set ?_ (by first | (simp; done) | (simp; omega)) _))⟩)
          · subst hb2
            go_wp2
            all_goals (go_ret; exact ⟨ret_bool (by simp), (by repeat (first | exact HBE_w7.out | refine below_drawnN ?_ _ | refine below_drawn ?_ | refine below_new ?_ _ | refine below_set ?_ (by first | (simp; done) | (simp; omega)) _))⟩)
          · subst hb2
            go_wp2
            all_goals (go_ret; exact ⟨ret_bool (by simp), (by repeat (first | exact HBE_w7.out | refine below_drawnN ?_ _ | refine below_drawn ?_ | refine below_new ?_ _ | refine below_set ?_ (by first | (simp; done) | (simp; omega)) _))⟩)
end Go.Proofs.YtfeemiamjmmolaaDoor
