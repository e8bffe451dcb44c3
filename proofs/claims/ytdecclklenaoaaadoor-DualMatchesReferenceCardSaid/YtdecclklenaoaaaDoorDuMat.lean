/- The statement DualMatchesReference: it returns true, whatever the input, and leaves what was in memory alone. -/
import Derived.Test.YtdecclklenaoaaaDoorDuHeadB
import Derived.Test.YtdecclklenaoaaaDoorDuOut
import Derived.Test.YtdecclklenaoaaaDoorEaPar
namespace Go.Proofs.YtdecclklenaoaaaDoor
open Go.RowKit

theorem rdPk_below {V V' : World} {v : Value} {ps : List Ea.Pkt} (h : RdPk V v ps) (hb : Below V.heap.size V V') : RdPk V' v ps := by
  obtain ⟨a, c, e, h2⟩ := h
  exact ⟨a, c, e, fun i hi => by obtain ⟨b, o, e, hr⟩ := h2 i hi; exact ⟨b, o, e, rangeAt_below hr hb⟩⟩
set_option maxRecDepth 100000 in
set_option maxHeartbeats 3000000 in
theorem match_entry (kind A B C room : Int) (la : Option Addr) (ln lc : Nat) (v0 v1 v2 v3 v4 v5 v6 v7 : Int) (s : Nat) (p : Ea.Pkt) (now : Int) (W : World) (hL : RdLs W la ln) (hln : (ln : Int) ≤ 9223372036854775807) (ht : Table W) :
    Calls Tryd.prog 3 #[.agg #[.int .i64 kind, .int .i64 A, .int .i64 B, .int .i64 C, .int .i64 room, .slice la ln lc, .int .i64 v0, .int .i64 v1, .int .i64 v2, .int .i64 v3, .int .i64 v4, .int .i64 v5, .int .i64 v6, .int .i64 v7, .int .u64 (s : Int)], pktVal p, .int .i64 now] W fun e V => e = .returned (.bool true) ∧ Below W.heap.size W V := by
  have HL := Lib.hid hL
  have HT := Lib.hid ht
  clear hL ht
  go_enter Tryd.func3, Tryd.ntmps3
  go_wp2_with fail
  refine (head_ok _ (table_below HT.out (by exact below_new (below_new (Below.refl _ _) _) _))).mono ?_
  rintro e w1 ⟨rfl, hb1⟩
  have HB1 := Lib.hid (below_on (w := W) (by exact below_new (below_new (Below.refl _ _) _) _) hb1)
  have HQ1 : RowKit.Hid (Blk w1 W.heap.size [.int .i64 kind, .int .i64 A, .int .i64 B, .int .i64 C, .int .i64 room, .slice la ln lc, .int .i64 v0, .int .i64 v1, .int .i64 v2, .int .i64 v3, .int .i64 v4, .int .i64 v5, .int .i64 v6, .int .i64 v7, .int .u64 (s : Int)]) := Lib.hid (((Blk.new W #[.int .i64 kind, .int .i64 A, .int .i64 B, .int .i64 C, .int .i64 room, .slice la ln lc, .int .i64 v0, .int .i64 v1, .int .i64 v2, .int .i64 v3, .int .i64 v4, .int .i64 v5, .int .i64 v6, .int .i64 v7, .int .u64 (s : Int)] 28).below (below_new (Below.refl _ _) _)).below hb1)
  have HP1 : RowKit.Hid (Blk w1 (W.heap.size + 1) (pktList p)) := Lib.hid ((blk_new_at (W.alloc _) (pktList p).toArray 30 (by simp)).below hb1)
  clear hb1
  go_wp2_with (refine wpList_load_mid rfl 28 _ rfl W.heap.size 0 rfl [.int .i64 kind, .int .i64 A, .int .i64 B, .int .i64 C, .int .i64 room, .slice la ln lc, .int .i64 v0, .int .i64 v1, .int .i64 v2, .int .i64 v3, .int .i64 v4, .int .i64 v5, .int .i64 v6, .int .i64 v7, .int .u64 (s : Int)] _ HQ1.out.range Tryd.underlying28 rfl (by kernel_rfl) ?_)
  refine (few_any kind A B C room la ln lc v0 v1 v2 v3 v4 v5 v6 v7 s w1 (HL.out.below HB1.out) hln).mono ?_
  rintro e w2 ⟨⟨b1, rfl, hs1⟩, hb2⟩
  have HS1 := Lib.hid hs1
  have HB12 := Lib.hid hb2
  have HB2 := Lib.hid (below_on HB1.out hb2)
  have HQ2 := Lib.hid (HQ1.out.below hb2)
  have HP2 := Lib.hid (HP1.out.below hb2)
  clear hb2 hs1 HQ1 HP1
  cases b1 with
  | false =>
    go_wp2
    go_ret
    exact ⟨rfl, HB2.out⟩
  | true =>
    have hS : ∀ i ad a n c, i < ln → la = some ad → w2.cell? (ad.add i) = some (.slice a n c) → n ≤ 600 := fun i ad a n c hi e h => by
      obtain ⟨ad', a', n', c', xs', e', hc', _, _⟩ := HL.out i hi
      rw [e] at e'
      injection e' with e'
      subst e'
      have h3 := below_cell_of HB1.out hc'
      have h4 := (below_cell_of HB12.out h3).symm.trans h
      injection h4 with h4
      injection h4 with _ h5 _
      subst h5
      exact (HS1.out.1 rfl).2 i ad _ _ _ hi e h3
    have HSS := Lib.hid hS
    clear hS
    have HL6 := Lib.hid (⟨HL.out.below HB2.out, HSS.out⟩ : RdLs6 w2 la ln)
    obtain ⟨k1, A1, B1, room1, ln1, r1, t1, s1, xs1, ys1, dr1, code1, hd1, hP, hRP⟩ := put_out kind A B C room la ln lc v0 v1 v2 v3 v4 v5 v6 v7 s w2 HL6.out p now
    obtain ⟨k2, A2, B2, room2, ln2, r2, t2, s2, xs2, ys2, p2, is2, dr2, code2, hd2, hT, hRT⟩ := take_out kind A B C room la ln lc v0 v1 v2 v3 v4 v5 v6 v7 s w2 HL6.out (table_below HT.out HB2.out) now
    obtain ⟨bv, hV, hRV⟩ := valid_out kind A B C room la ln lc v0 v1 v2 v3 v4 v5 v6 v7 s w2 HL6.out
    have CP := Lib.hid hP
    have CRP := Lib.hid hRP
    have CT := Lib.hid hT
    have CRT := Lib.hid hRT
    have CV := Lib.hid hV
    have CRV := Lib.hid hRV
    clear hP hRP hT hRT hV hRV HSS HS1 HB12 HB1 HL
    go_wp2_with (first | (refine wpList_load_mid rfl 28 (.tmp 3) rfl W.heap.size 0 rfl [.int .i64 kind, .int .i64 A, .int .i64 B, .int .i64 C, .int .i64 room, .slice la ln lc, .int .i64 v0, .int .i64 v1, .int .i64 v2, .int .i64 v3, .int .i64 v4, .int .i64 v5, .int .i64 v6, .int .i64 v7, .int .u64 (s : Int)] _ (HQ2.out.below (by exact (by repeat (first | exact Below.refl _ _ | refine below_drawnN ?_ _ | refine below_drawn ?_ | refine below_new ?_ _)))).range Tryd.underlying28 rfl (by kernel_rfl) ?_) | (refine wpList_load_mid rfl 30 (.tmp 4) rfl (W.heap.size + 1) 0 rfl (pktList p) _ (HP2.out.below (by exact (by repeat (first | exact Below.refl _ _ | refine below_drawnN ?_ _ | refine below_drawn ?_ | refine below_new ?_ _)))).range Tryd.underlying30 rfl (by kernel_rfl) ?_))
    refine (CP.out _ (by exact (by repeat (first | exact Below.refl _ _ | refine below_drawnN ?_ _ | refine below_drawn ?_ | refine below_new ?_ _)))).mono ?_
    rintro e V1 ⟨la1, lc1, da1, dc1, rfl, hb, ht, hr⟩
    have hbx : Below w2.heap.size w2 V1 := below_on (by exact (by repeat (first | exact Below.refl _ _ | refine below_drawnN ?_ _ | refine below_drawn ?_ | refine below_new ?_ _))) hb
    have hb' : Below w2.heap.size w2 V1 := hbx
    have HB1' := Lib.hid hb'
    have HQ1' := Lib.hid (HQ2.out.below hb')
    have HP1' := Lib.hid (HP2.out.below hb')
    have HTW1 := Lib.hid ht
    have HRD1 := Lib.hid hr
    clear hb ht hr hb' hbx
    go_wp2_with (first | (refine wpList_load_mid rfl 28 (.tmp 3) rfl W.heap.size 0 rfl [.int .i64 kind, .int .i64 A, .int .i64 B, .int .i64 C, .int .i64 room, .slice la ln lc, .int .i64 v0, .int .i64 v1, .int .i64 v2, .int .i64 v3, .int .i64 v4, .int .i64 v5, .int .i64 v6, .int .i64 v7, .int .u64 (s : Int)] _ (HQ1'.out.below (by exact (by repeat (first | exact Below.refl _ _ | refine below_drawnN ?_ _ | refine below_drawn ?_ | refine below_new ?_ _)))).range Tryd.underlying28 rfl (by kernel_rfl) ?_) | (refine wpList_load_mid rfl 30 (.tmp 4) rfl (W.heap.size + 1) 0 rfl (pktList p) _ (HP1'.out.below (by exact (by repeat (first | exact Below.refl _ _ | refine below_drawnN ?_ _ | refine below_drawn ?_ | refine below_new ?_ _)))).range Tryd.underlying30 rfl (by kernel_rfl) ?_))
    refine (CRP.out _ (below_on HB1'.out (by exact (by repeat (first | exact Below.refl _ _ | refine below_drawnN ?_ _ | refine below_drawn ?_ | refine below_new ?_ _))))).mono ?_
    rintro e V2 ⟨la2, lc2, da2, dc2, rfl, hb, ht, hr⟩
    have hbx : Below V1.heap.size V1 V2 := below_on (by exact (by repeat (first | exact Below.refl _ _ | refine below_drawnN ?_ _ | refine below_drawn ?_ | refine below_new ?_ _))) hb
    have hb' : Below w2.heap.size w2 V2 := below_on HB1'.out hbx
    have HB2' := Lib.hid hb'
    have HQ2' := Lib.hid (HQ2.out.below hb')
    have HP2' := Lib.hid (HP2.out.below hb')
    have HTW2 := Lib.hid ht
    have HRD2 := Lib.hid hr
    have HTW1 := Lib.hid (HTW1.out.below hbx)
    have HRD1 := Lib.hid (rdPk_below HRD1.out hbx)
    have KA : RowKit.Hid (Blk V2 V1.heap.size (qList k1 A1 B1 room1 la1 ln1 lc1 r1 t1 s1)) := Lib.hid ((Blk.new V1 (qList k1 A1 B1 room1 la1 ln1 lc1 r1 t1 s1).toArray 28).below hb)
    clear hb ht hr hb' hbx
    go_wp2_with (first | (refine wpList_load_mid rfl 28 (.tmp 3) rfl W.heap.size 0 rfl [.int .i64 kind, .int .i64 A, .int .i64 B, .int .i64 C, .int .i64 room, .slice la ln lc, .int .i64 v0, .int .i64 v1, .int .i64 v2, .int .i64 v3, .int .i64 v4, .int .i64 v5, .int .i64 v6, .int .i64 v7, .int .u64 (s : Int)] _ (HQ2'.out.below (by exact (by repeat (first | exact Below.refl _ _ | refine below_drawnN ?_ _ | refine below_drawn ?_ | refine below_new ?_ _)))).range Tryd.underlying28 rfl (by kernel_rfl) ?_) | (refine wpList_load_mid rfl 30 (.tmp 4) rfl (W.heap.size + 1) 0 rfl (pktList p) _ (HP2'.out.below (by exact (by repeat (first | exact Below.refl _ _ | refine below_drawnN ?_ _ | refine below_drawn ?_ | refine below_new ?_ _)))).range Tryd.underlying30 rfl (by kernel_rfl) ?_))
    refine (CT.out _ (below_on HB2'.out (by exact (by repeat (first | exact Below.refl _ _ | refine below_drawnN ?_ _ | refine below_drawn ?_ | refine below_new ?_ _))))).mono ?_
    rintro e V3 ⟨la3, lc3, da3, dc3, rfl, hb, ht, hr⟩
    have hbx : Below V2.heap.size V2 V3 := below_on (by exact (by repeat (first | exact Below.refl _ _ | refine below_drawnN ?_ _ | refine below_drawn ?_ | refine below_new ?_ _))) hb
    have hb' : Below w2.heap.size w2 V3 := below_on HB2'.out hbx
    have HB3' := Lib.hid hb'
    have HQ3' := Lib.hid (HQ2.out.below hb')
    have HP3' := Lib.hid (HP2.out.below hb')
    have HTW3 := Lib.hid ht
    have HRD3 := Lib.hid hr
    have HTW1 := Lib.hid (HTW1.out.below hbx)
    have HRD1 := Lib.hid (rdPk_below HRD1.out hbx)
    have HTW2 := Lib.hid (HTW2.out.below hbx)
    have HRD2 := Lib.hid (rdPk_below HRD2.out hbx)
    have KA := Lib.hid (KA.out.below hbx)
    have KB : RowKit.Hid (Blk V3 V2.heap.size (qList k1 A1 B1 room1 la2 ln1 lc2 r1 t1 s1)) := Lib.hid ((Blk.new V2 (qList k1 A1 B1 room1 la2 ln1 lc2 r1 t1 s1).toArray 28).below hb)
    clear hb ht hr hb' hbx
    go_wp2_with (first | (refine wpList_load_mid rfl 28 (.tmp 3) rfl W.heap.size 0 rfl [.int .i64 kind, .int .i64 A, .int .i64 B, .int .i64 C, .int .i64 room, .slice la ln lc, .int .i64 v0, .int .i64 v1, .int .i64 v2, .int .i64 v3, .int .i64 v4, .int .i64 v5, .int .i64 v6, .int .i64 v7, .int .u64 (s : Int)] _ (HQ3'.out.below (by exact (by repeat (first | exact Below.refl _ _ | refine below_drawnN ?_ _ | refine below_drawn ?_ | refine below_new ?_ _)))).range Tryd.underlying28 rfl (by kernel_rfl) ?_) | (refine wpList_load_mid rfl 30 (.tmp 4) rfl (W.heap.size + 1) 0 rfl (pktList p) _ (HP3'.out.below (by exact (by repeat (first | exact Below.refl _ _ | refine below_drawnN ?_ _ | refine below_drawn ?_ | refine below_new ?_ _)))).range Tryd.underlying30 rfl (by kernel_rfl) ?_))
    refine (CRT.out _ (below_on HB3'.out (by exact (by repeat (first | exact Below.refl _ _ | refine below_drawnN ?_ _ | refine below_drawn ?_ | refine below_new ?_ _))))).mono ?_
    rintro e V4 ⟨la4, lc4, da4, dc4, rfl, hb, ht, hr⟩
    have hbx : Below V3.heap.size V3 V4 := below_on (by exact (by repeat (first | exact Below.refl _ _ | refine below_drawnN ?_ _ | refine below_drawn ?_ | refine below_new ?_ _))) hb
    have hb' : Below w2.heap.size w2 V4 := below_on HB3'.out hbx
    have HB4' := Lib.hid hb'
    have HQ4' := Lib.hid (HQ2.out.below hb')
    have HP4' := Lib.hid (HP2.out.below hb')
    have HTW4 := Lib.hid ht
    have HRD4 := Lib.hid hr
    have HTW1 := Lib.hid (HTW1.out.below hbx)
    have HRD1 := Lib.hid (rdPk_below HRD1.out hbx)
    have HTW2 := Lib.hid (HTW2.out.below hbx)
    have HRD2 := Lib.hid (rdPk_below HRD2.out hbx)
    have HTW3 := Lib.hid (HTW3.out.below hbx)
    have HRD3 := Lib.hid (rdPk_below HRD3.out hbx)
    have KA := Lib.hid (KA.out.below hbx)
    have KB := Lib.hid (KB.out.below hbx)
    have KX : RowKit.Hid (Blk V4 V3.heap.size (qList k2 A2 B2 room2 la3 ln2 lc3 r2 t2 s2)) := Lib.hid (((Blk.new V3 (qList k2 A2 B2 room2 la3 ln2 lc3 r2 t2 s2).toArray 28).below (below_new (Below.refl _ _) (.cells (pktList p2).toArray 30))).below hb)
    have KS : RowKit.Hid (Blk V4 (V3.heap.size + 1) (pktList p2)) := Lib.hid ((blk_new_at (V3.alloc (.cells (qList k2 A2 B2 room2 la3 ln2 lc3 r2 t2 s2).toArray 28)) (pktList p2).toArray 30 (by simp)).below hb)
    clear hb ht hr hb' hbx
    go_wp2_with fail
    obtain ⟨W8, hW8⟩ : ∃ W8, (V4.alloc (.cells (qList k2 A2 B2 room2 la4 ln2 lc4 r2 t2 s2).toArray 28)).alloc (.cells (pktList p2).toArray 30) = W8 := ⟨_, rfl⟩
    have hb8 : Below V4.heap.size V4 W8 := by rw [← hW8]; exact below_new (below_new (Below.refl _ _) _) _
    have KY : RowKit.Hid (Blk W8 V4.heap.size (qList k2 A2 B2 room2 la4 ln2 lc4 r2 t2 s2)) := Lib.hid (by rw [← hW8]; exact (Blk.new V4 (qList k2 A2 B2 room2 la4 ln2 lc4 r2 t2 s2).toArray 28).below (below_new (Below.refl _ _) _))
    have KT : RowKit.Hid (Blk W8 (V4.heap.size + 1) (pktList p2)) := Lib.hid (by rw [← hW8]; exact blk_new_at (V4.alloc _) (pktList p2).toArray 30 (by simp))
    rw [hW8]
    have H8 := Lib.hid (below_on HB4'.out hb8)
    have KQ := Lib.hid (HQ4'.out.below hb8)
    have KA := Lib.hid (KA.out.below hb8)
    have KB := Lib.hid (KB.out.below hb8)
    have KX := Lib.hid (KX.out.below hb8)
    have KS := Lib.hid (KS.out.below hb8)
    have HTW1 := Lib.hid (HTW1.out.below hb8)
    have HRD1 := Lib.hid (rdPk_below HRD1.out hb8)
    have HTW2 := Lib.hid (HTW2.out.below hb8)
    have HRD2 := Lib.hid (rdPk_below HRD2.out hb8)
    have HTW3 := Lib.hid (HTW3.out.below hb8)
    have HRD3 := Lib.hid (rdPk_below HRD3.out hb8)
    have HTW4 := Lib.hid (HTW4.out.below hb8)
    have HRD4 := Lib.hid (rdPk_below HRD4.out hb8)
    clear hW8 hb8
    refine wp_region_held_drew (S := (fun V => Below W8.heap.size W8 V)) (by kernel_rfl) ?_ (fun hHeld => ?_)
    · exact below_drawn (Below.refl _ _)
    refine wpAnyH_take (i := 0) (v := ?_) rfl (by kernel_rfl) (by kernel_rfl) (by kernel_rfl) (fun _ _ _ h => h) (Or.inl ⟨by rfl, ?_⟩) hHeld ?_
    rotate_left
    · intro wS hSw; obtain hS0 := hSw; go_simp; try with_reducible rfl
    try go_simp
    refine wpAnyH_take (i := 1) (v := ?_) rfl (by kernel_rfl) (by kernel_rfl) (by kernel_rfl) (fun _ _ _ h => h) (Or.inl ⟨by rfl, ?_⟩) hHeld ?_
    rotate_left
    · intro wS hSw; obtain hS0 := hSw; go_simp; try with_reducible rfl
    try go_simp
    refine wpAnyH_take (i := 2) (v := (.agg (qList k1 A1 B1 room1 la1 ln1 lc1 r1 t1 s1).toArray)) rfl (by kernel_rfl) (by kernel_rfl) (by kernel_rfl) (fun _ _ _ h => h) (yieldsIf_load_mid (by rfl) 28 _ rfl (V1.heap.size) 0 rfl (qList k1 A1 B1 room1 la1 ln1 lc1 r1 t1 s1) _ (fun _ h => (Blk.below KA.out h).range) Tryd.underlying28 rfl (by kernel_rfl)) hHeld ?_
    try go_simp
    refine wpAnyH_take (i := 3) (v := (.agg (qList k1 A1 B1 room1 la2 ln1 lc2 r1 t1 s1).toArray)) rfl (by kernel_rfl) (by kernel_rfl) (by kernel_rfl) (fun _ _ _ h => h) (yieldsIf_load_mid (by rfl) 28 _ rfl (V2.heap.size) 0 rfl (qList k1 A1 B1 room1 la2 ln1 lc2 r1 t1 s1) _ (fun _ h => (Blk.below KB.out h).range) Tryd.underlying28 rfl (by kernel_rfl)) hHeld ?_
    try go_simp
    refine wpAnyH_ready (rs := [4]) (by kernel_rfl) (by simp) ?_
    refine AllReadyH.cons rfl (fun K hK => ?_) AllReadyH.nil
    go_simp
    refine (same_twin (HTW1.out.below hHeld) (HTW2.out.below hHeld)).mono ?_
    rintro e W9 ⟨rfl, hb⟩
    refine hK.out _ _ ?_ ?_
    · exact below_on hHeld hb
    clear hK K hHeld hb
    intro hHeld
    try go_simp
    refine wpAnyH_take (i := 5) (v := ?_) rfl (by kernel_rfl) (by kernel_rfl) (by kernel_rfl) (fun _ _ _ h => h) (Or.inl ⟨by rfl, ?_⟩) hHeld ?_
    rotate_left
    · intro wS hSw; obtain hS0 := hSw; go_simp; try with_reducible rfl
    try go_simp
    refine wpAnyH_take (i := 6) (v := ?_) rfl (by kernel_rfl) (by kernel_rfl) (by kernel_rfl) (fun _ _ _ h => h) (Or.inl ⟨by rfl, ?_⟩) hHeld ?_
    rotate_left
    · intro wS hSw; obtain hS0 := hSw; go_simp; try with_reducible rfl
    try go_simp
    refine wpAnyH_take (i := 7) (v := ?_) rfl (by kernel_rfl) (by kernel_rfl) (by kernel_rfl) (fun _ _ _ h => h) (Or.inl ⟨by rfl, ?_⟩) hHeld ?_
    rotate_left
    · intro wS hSw; obtain hS0 := hSw; go_simp; try with_reducible rfl
    try go_simp
    refine wpAnyH_take (i := 8) (v := ?_) rfl (by kernel_rfl) (by kernel_rfl) (by kernel_rfl) (fun _ _ _ h => h) (Or.inl ⟨by rfl, ?_⟩) hHeld ?_
    rotate_left
    · intro wS hSw; obtain hS0 := hSw; go_simp; try with_reducible rfl
    try go_simp
    refine wpAnyH_ready (rs := [9]) (by kernel_rfl) (by simp) ?_
    refine AllReadyH.cons rfl (fun K hK => ?_) AllReadyH.nil
    go_simp
    refine (packets_yes _ _ dr1 _ (rdPk_below HRD1.out hHeld) (rdPk_below HRD2.out hHeld) hd1).mono ?_
    rintro e W9 ⟨rfl, hb⟩
    refine hK.out _ _ ?_ ?_
    · exact below_on hHeld hb
    clear hK K hHeld hb
    intro hHeld
    try go_simp
    refine wpAnyH_take (i := 10) (v := ?_) rfl (by kernel_rfl) (by kernel_rfl) (by kernel_rfl) (fun _ _ _ h => h) (Or.inl ⟨by rfl, ?_⟩) hHeld ?_
    rotate_left
    · intro wS hSw; obtain hS0 := hSw; go_simp; try with_reducible rfl
    try go_simp
    refine wpAnyH_take (i := 11) (v := ?_) rfl (by kernel_rfl) (by kernel_rfl) (by kernel_rfl) (fun _ _ _ h => h) (Or.inl ⟨by rfl, ?_⟩) hHeld ?_
    rotate_left
    · intro wS hSw; obtain hS0 := hSw; go_simp; try with_reducible rfl
    try go_simp
    refine wpAnyH_take (i := 12) (v := ?_) rfl (by kernel_rfl) (by kernel_rfl) (by kernel_rfl) (fun _ _ _ h => h) (Or.inl ⟨by rfl, ?_⟩) hHeld ?_
    rotate_left
    · intro wS hSw; obtain hS0 := hSw; go_simp; try with_reducible rfl
    try go_simp
    refine wpAnyH_take (i := 13) (v := ?_) rfl (by kernel_rfl) (by kernel_rfl) (by kernel_rfl) (fun _ _ _ h => h) (Or.inl ⟨by rfl, ?_⟩) hHeld ?_
    rotate_left
    · intro wS hSw; obtain hS0 := hSw; go_simp; try with_reducible rfl
    try go_simp
    refine wpAnyH_take (i := 14) (v := ?_) rfl (by kernel_rfl) (by kernel_rfl) (by kernel_rfl) (fun _ _ _ h => h) (Or.inl ⟨by rfl, ?_⟩) hHeld ?_
    rotate_left
    · intro wS hSw; obtain hS0 := hSw; go_simp; try with_reducible rfl
    try go_simp
    refine wpAnyH_take (i := 15) (v := ?_) rfl (by kernel_rfl) (by kernel_rfl) (by kernel_rfl) (fun _ _ _ h => h) (Or.inl ⟨by rfl, ?_⟩) hHeld ?_
    rotate_left
    · intro wS hSw; obtain hS0 := hSw; go_simp; try with_reducible rfl
    try go_simp
    refine wpAnyH_take (i := 16) (v := ?_) rfl (by kernel_rfl) (by kernel_rfl) (by kernel_rfl) (fun _ _ _ h => h) (Or.inl ⟨by rfl, ?_⟩) hHeld ?_
    rotate_left
    · intro wS hSw; obtain hS0 := hSw; go_simp; try with_reducible rfl
    try go_simp
    refine wpAnyH_take (i := 17) (v := (.agg (qList k2 A2 B2 room2 la3 ln2 lc3 r2 t2 s2).toArray)) rfl (by kernel_rfl) (by kernel_rfl) (by kernel_rfl) (fun _ _ _ h => h) (yieldsIf_load_mid (by rfl) 28 _ rfl (V3.heap.size) 0 rfl (qList k2 A2 B2 room2 la3 ln2 lc3 r2 t2 s2) _ (fun _ h => (Blk.below KX.out h).range) Tryd.underlying28 rfl (by kernel_rfl)) hHeld ?_
    try go_simp
    refine wpAnyH_take (i := 18) (v := (.agg (qList k2 A2 B2 room2 la4 ln2 lc4 r2 t2 s2).toArray)) rfl (by kernel_rfl) (by kernel_rfl) (by kernel_rfl) (fun _ _ _ h => h) (yieldsIf_load_mid (by rfl) 28 _ rfl (V4.heap.size) 0 rfl (qList k2 A2 B2 room2 la4 ln2 lc4 r2 t2 s2) _ (fun _ h => (Blk.below KY.out h).range) Tryd.underlying28 rfl (by kernel_rfl)) hHeld ?_
    try go_simp
    refine wpAnyH_ready (rs := [19]) (by kernel_rfl) (by simp) ?_
    refine AllReadyH.cons rfl (fun K hK => ?_) AllReadyH.nil
    go_simp
    refine (same_twin (HTW3.out.below hHeld) (HTW4.out.below hHeld)).mono ?_
    rintro e W9 ⟨rfl, hb⟩
    refine hK.out _ _ ?_ ?_
    · exact below_on hHeld hb
    clear hK K hHeld hb
    intro hHeld
    try go_simp
    refine wpAnyH_take (i := 20) (v := ?_) rfl (by kernel_rfl) (by kernel_rfl) (by kernel_rfl) (fun _ _ _ h => h) (Or.inl ⟨by rfl, ?_⟩) hHeld ?_
    rotate_left
    · intro wS hSw; obtain hS0 := hSw; go_simp; try with_reducible rfl
    try go_simp
    refine wpAnyH_take (i := 21) (v := ?_) rfl (by kernel_rfl) (by kernel_rfl) (by kernel_rfl) (fun _ _ _ h => h) (Or.inl ⟨by rfl, ?_⟩) hHeld ?_
    rotate_left
    · intro wS hSw; obtain hS0 := hSw; go_simp; try with_reducible rfl
    try go_simp
    refine wpAnyH_take (i := 22) (v := (.agg (pktList p2).toArray)) rfl (by kernel_rfl) (by kernel_rfl) (by kernel_rfl) (fun _ _ _ h => h) (yieldsIf_load_mid (by rfl) 30 _ rfl (V3.heap.size + 1) 0 rfl (pktList p2) _ (fun _ h => (Blk.below KS.out h).range) Tryd.underlying30 rfl (by kernel_rfl)) hHeld ?_
    try go_simp
    refine wpAnyH_take (i := 23) (v := (.agg (pktList p2).toArray)) rfl (by kernel_rfl) (by kernel_rfl) (by kernel_rfl) (fun _ _ _ h => h) (yieldsIf_load_mid (by rfl) 30 _ rfl (V4.heap.size + 1) 0 rfl (pktList p2) _ (fun _ h => (Blk.below KT.out h).range) Tryd.underlying30 rfl (by kernel_rfl)) hHeld ?_
    try go_simp
    refine wpAnyH_take (i := 24) (v := ?_) rfl (by kernel_rfl) (by kernel_rfl) (by kernel_rfl) (fun _ _ _ h => h) (Or.inl ⟨by rfl, ?_⟩) hHeld ?_
    rotate_left
    · intro wS hSw; obtain hS0 := hSw; go_simp; try with_reducible rfl
    try go_simp
    refine wpAnyH_take (i := 25) (v := ?_) rfl (by kernel_rfl) (by kernel_rfl) (by kernel_rfl) (fun _ _ _ h => h) (Or.inl ⟨by rfl, ?_⟩) hHeld ?_
    rotate_left
    · intro wS hSw; obtain hS0 := hSw; go_simp; try with_reducible rfl
    try go_simp
    refine wpAnyH_take (i := 26) (v := ?_) rfl (by kernel_rfl) (by kernel_rfl) (by kernel_rfl) (fun _ _ _ h => h) (Or.inl ⟨by rfl, ?_⟩) hHeld ?_
    rotate_left
    · intro wS hSw; obtain hS0 := hSw; go_simp; try with_reducible rfl
    try go_simp
    refine wpAnyH_take (i := 27) (v := ?_) rfl (by kernel_rfl) (by kernel_rfl) (by kernel_rfl) (fun _ _ _ h => h) (Or.inl ⟨by rfl, ?_⟩) hHeld ?_
    rotate_left
    · intro wS hSw; obtain hS0 := hSw; go_simp; try with_reducible rfl
    try go_simp
    refine wpAnyH_take (i := 28) (v := ?_) rfl (by kernel_rfl) (by kernel_rfl) (by kernel_rfl) (fun _ _ _ h => h) (Or.inl ⟨by rfl, ?_⟩) hHeld ?_
    rotate_left
    · intro wS hSw; obtain hS0 := hSw; go_simp; try with_reducible rfl
    try go_simp
    refine wpAnyH_take (i := 29) (v := ?_) rfl (by kernel_rfl) (by kernel_rfl) (by kernel_rfl) (fun _ _ _ h => h) (Or.inl ⟨by rfl, ?_⟩) hHeld ?_
    rotate_left
    · intro wS hSw; obtain hS0 := hSw; go_simp; try with_reducible rfl
    try go_simp
    refine wpAnyH_take (i := 30) (v := ?_) rfl (by kernel_rfl) (by kernel_rfl) (by kernel_rfl) (fun _ _ _ h => h) (Or.inl ⟨by rfl, ?_⟩) hHeld ?_
    rotate_left
    · intro wS hSw; obtain hS0 := hSw; go_simp; try with_reducible rfl
    try go_simp
    refine wpAnyH_take (i := 31) (v := ?_) rfl (by kernel_rfl) (by kernel_rfl) (by kernel_rfl) (fun _ _ _ h => h) (Or.inl ⟨by rfl, ?_⟩) hHeld ?_
    rotate_left
    · intro wS hSw; obtain hS0 := hSw; go_simp; try with_reducible rfl
    try go_simp
    refine wpAnyH_take (i := 32) (v := ?_) rfl (by kernel_rfl) (by kernel_rfl) (by kernel_rfl) (fun _ _ _ h => h) (Or.inl ⟨by rfl, ?_⟩) hHeld ?_
    rotate_left
    · intro wS hSw; obtain hS0 := hSw; go_simp; try with_reducible rfl
    try go_simp
    refine wpAnyH_take (i := 33) (v := ?_) rfl (by kernel_rfl) (by kernel_rfl) (by kernel_rfl) (fun _ _ _ h => h) (Or.inl ⟨by rfl, ?_⟩) hHeld ?_
    rotate_left
    · intro wS hSw; obtain hS0 := hSw; go_simp; try with_reducible rfl
    try go_simp
    refine wpAnyH_ready (rs := [34]) (by kernel_rfl) (by simp) ?_
    refine AllReadyH.cons rfl (fun K hK => ?_) AllReadyH.nil
    go_simp
    refine (packets_yes _ _ dr2 _ (rdPk_below HRD3.out hHeld) (rdPk_below HRD4.out hHeld) hd2).mono ?_
    rintro e W9 ⟨rfl, hb⟩
    refine hK.out _ _ ?_ ?_
    · exact below_on hHeld hb
    clear hK K hHeld hb
    intro hHeld
    try go_simp
    refine wpAnyH_take (i := 35) (v := ?_) rfl (by kernel_rfl) (by kernel_rfl) (by kernel_rfl) (fun _ _ _ h => h) (Or.inl ⟨by rfl, ?_⟩) hHeld ?_
    rotate_left
    · intro wS hSw; obtain hS0 := hSw; go_simp; try with_reducible rfl
    try go_simp
    refine wpAnyH_take (i := 36) (v := ?_) rfl (by kernel_rfl) (by kernel_rfl) (by kernel_rfl) (fun _ _ _ h => h) (Or.inl ⟨by rfl, ?_⟩) hHeld ?_
    rotate_left
    · intro wS hSw; obtain hS0 := hSw; go_simp; try with_reducible rfl
    try go_simp
    refine wpAnyH_take (i := 37) (v := ?_) rfl (by kernel_rfl) (by kernel_rfl) (by kernel_rfl) (fun _ _ _ h => h) (Or.inl ⟨by rfl, ?_⟩) hHeld ?_
    rotate_left
    · intro wS hSw; obtain hS0 := hSw; go_simp; try with_reducible rfl
    try go_simp
    refine wpAnyH_take (i := 38) (v := ?_) rfl (by kernel_rfl) (by kernel_rfl) (by kernel_rfl) (fun _ _ _ h => h) (Or.inl ⟨by rfl, ?_⟩) hHeld ?_
    rotate_left
    · intro wS hSw; obtain hS0 := hSw; go_simp; try with_reducible rfl
    try go_simp
    refine wpAnyH_take (i := 39) (v := ?_) rfl (by kernel_rfl) (by kernel_rfl) (by kernel_rfl) (fun _ _ _ h => h) (Or.inl ⟨by rfl, ?_⟩) hHeld ?_
    rotate_left
    · intro wS hSw; obtain hS0 := hSw; go_simp; try with_reducible rfl
    try go_simp
    refine wpAnyH_take (i := 40) (v := ?_) rfl (by kernel_rfl) (by kernel_rfl) (by kernel_rfl) (fun _ _ _ h => h) (Or.inl ⟨by rfl, ?_⟩) hHeld ?_
    rotate_left
    · intro wS hSw; obtain hS0 := hSw; go_simp; try with_reducible rfl
    try go_simp
    refine wpAnyH_take (i := 41) (v := ?_) rfl (by kernel_rfl) (by kernel_rfl) (by kernel_rfl) (fun _ _ _ h => h) (Or.inl ⟨by rfl, ?_⟩) hHeld ?_
    rotate_left
    · intro wS hSw; obtain hS0 := hSw; go_simp; try with_reducible rfl
    try go_simp
    refine wpAnyH_take (i := 42) (v := (.agg [.int .i64 kind, .int .i64 A, .int .i64 B, .int .i64 C, .int .i64 room, .slice la ln lc, .int .i64 v0, .int .i64 v1, .int .i64 v2, .int .i64 v3, .int .i64 v4, .int .i64 v5, .int .i64 v6, .int .i64 v7, .int .u64 (s : Int)].toArray)) rfl (by kernel_rfl) (by kernel_rfl) (by kernel_rfl) (fun _ _ _ h => h) (yieldsIf_load_mid (by rfl) 28 _ rfl (W.heap.size) 0 rfl [.int .i64 kind, .int .i64 A, .int .i64 B, .int .i64 C, .int .i64 room, .slice la ln lc, .int .i64 v0, .int .i64 v1, .int .i64 v2, .int .i64 v3, .int .i64 v4, .int .i64 v5, .int .i64 v6, .int .i64 v7, .int .u64 (s : Int)] _ (fun _ h => (Blk.below KQ.out h).range) Tryd.underlying28 rfl (by kernel_rfl)) hHeld ?_
    try go_simp
    refine wpAnyH_take (i := 44) (v := (.agg [.int .i64 kind, .int .i64 A, .int .i64 B, .int .i64 C, .int .i64 room, .slice la ln lc, .int .i64 v0, .int .i64 v1, .int .i64 v2, .int .i64 v3, .int .i64 v4, .int .i64 v5, .int .i64 v6, .int .i64 v7, .int .u64 (s : Int)].toArray)) rfl (by kernel_rfl) (by kernel_rfl) (by kernel_rfl) (fun _ _ _ h => h) (yieldsIf_load_mid (by rfl) 28 _ rfl (W.heap.size) 0 rfl [.int .i64 kind, .int .i64 A, .int .i64 B, .int .i64 C, .int .i64 room, .slice la ln lc, .int .i64 v0, .int .i64 v1, .int .i64 v2, .int .i64 v3, .int .i64 v4, .int .i64 v5, .int .i64 v6, .int .i64 v7, .int .u64 (s : Int)] _ (fun _ h => (Blk.below KQ.out h).range) Tryd.underlying28 rfl (by kernel_rfl)) hHeld ?_
    try go_simp
    refine wpAnyH_ready (rs := [43]) (by kernel_rfl) (by simp) ?_
    refine AllReadyH.cons rfl (fun K hK => ?_) AllReadyH.nil
    go_simp
    refine (CV.out _ (below_on H8.out hHeld)).mono ?_
    rintro e W9 ⟨rfl, hb⟩
    refine hK.out _ _ ?_ ?_
    · exact below_on hHeld hb
    clear hK K hHeld hb
    intro hHeld
    try go_simp
    refine wpAnyH_ready (rs := [45]) (by kernel_rfl) (by simp) ?_
    refine AllReadyH.cons rfl (fun K hK => ?_) AllReadyH.nil
    go_simp
    refine (CRV.out _ (below_on H8.out hHeld)).mono ?_
    rintro e W9 ⟨rfl, hb⟩
    refine hK.out _ _ ?_ ?_
    · exact below_on hHeld hb
    clear hK K hHeld hb
    intro hHeld
    try go_simp
    refine wpAnyH_take (i := 46) (v := ?_) rfl (by kernel_rfl) (by kernel_rfl) (by kernel_rfl) (fun _ _ _ h => h) (Or.inl ⟨by rfl, ?_⟩) hHeld ?_
    rotate_left
    · intro wS hSw; obtain hS0 := hSw; go_simp; try with_reducible rfl
    try go_simp
    refine wpAnyH_take (i := 47) (v := ?_) rfl (by kernel_rfl) (by kernel_rfl) (by kernel_rfl) (fun _ _ _ h => h) (Or.inl ⟨by rfl, ?_⟩) hHeld ?_
    rotate_left
    · intro wS hSw; obtain hS0 := hSw; go_simp; try with_reducible rfl
    try go_simp
    refine wpAnyH_take (i := 48) (v := ?_) rfl (by kernel_rfl) (by kernel_rfl) (by kernel_rfl) (fun _ _ _ h => h) (Or.inl ⟨by rfl, ?_⟩) hHeld ?_
    rotate_left
    · intro wS hSw; obtain hS0 := hSw; go_simp; try with_reducible rfl
    try go_simp
    refine wpAnyH_done (by kernel_rfl) ?_ _
    go_wp2
    go_ret
    exact ⟨rfl, below_on HB2.out (below_on H8.out hHeld)⟩
end Go.Proofs.YtdecclklenaoaaaDoor
