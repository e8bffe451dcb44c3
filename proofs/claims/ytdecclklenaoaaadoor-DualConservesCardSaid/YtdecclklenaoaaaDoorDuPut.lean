/- Put of package dual, at a valid queue and packet. -/
import Derived.Test.YtdecclklenaoaaaDoorDuStep
namespace Go.Proofs.YtdecclklenaoaaaDoor
open Go.RowKit

/-- A list of packets, read. -/
def RdPk (V : World) (v : Value) (ps : List Ea.Pkt) : Prop := ∃ a c, v = .slice a ps.length c ∧ ∀ i, i < ps.length → ∃ b o, a = some ⟨b, o, none⟩ ∧ V.rangeAt b (o + i * 8) (pktList (ps.getD i default))
theorem OwnP.rd {V : World} {base : Nat} {v : Value} {ps : List Ea.Pkt} (h : OwnP V base v ps) : RdPk V v ps := by
  obtain ⟨a, c, rfl⟩ := h.slice
  refine ⟨a, c, rfl, fun i hi => ?_⟩
  obtain ⟨g, c', e, _, _, hr⟩ := h.at i hi
  injection e with e
  exact ⟨g, 0, e, by rw [Nat.zero_add]; exact hr⟩
/-- The pair, and the packets handed back, are new. -/
def FreshP (w : World) (g : Nat) (v : Value) : Prop := w.heap.size ≤ g ∧ ∀ ad n c, v = .slice (some ad) n c → w.heap.size ≤ ad.block
/-- What Put says. -/
def DPutSays (w : World) (A B room v0 now : Int) (s : Nat) (xs ys : List Ea.Item) (o : List Ea.Pkt) (e : Ending) (V : World) : Prop :=
  ∃ g a1 c1 a2 c2 out, e = .returned (.tuple #[.agg (dqList A B room (some ⟨g, 15, none⟩) 2 v0 now s).toArray, out, .int .i64 0]) ∧ Below w.heap.size w V ∧ V.cell? ⟨g, 15, none⟩ = some (.slice a1 xs.length c1) ∧ V.cell? ⟨g, 16, none⟩ = some (.slice a2 ys.length c2) ∧ RdT V a1 xs.length xs ∧ RdT V a2 ys.length ys ∧ RdPk V out o ∧ FreshP w g out
theorem put_end {w V W3 Y V4 Z : World} {g r6 : Nat} {pl : List Value} {a1 a2 : Option Addr} {n1 n2 : Nat} {xs ys : List Ea.Item} (hB : Below w.heap.size w V) (hg3 : V.grownBy W3 (some g)) (hA : Below W3.heap.size W3 Y) (hg4 : Y.grownBy V4 (some r6)) (hZ : Below V4.heap.size V4 Z) (hgw : w.heap.size ≤ g) (hr6 : w.heap.size ≤ r6) (hne : g ≠ r6) (hp3 : Blk W3 g pl)
    (l1 : RdT V a1 n1 xs) (h1 : ∀ ad, a1 = some ad → 0 < n1 → ad.block ≠ g ∧ ad.block ≠ r6 ∧ ad.block < V.heap.size) (l2 : RdT V a2 n2 ys) (h2 : ∀ ad, a2 = some ad → 0 < n2 → ad.block ≠ g ∧ ad.block ≠ r6 ∧ ad.block < V.heap.size) :
    Below w.heap.size w Z ∧ Blk Z g pl ∧ RdT Z a1 n1 xs ∧ RdT Z a2 n2 ys := by
  have s1 := hg3.size
  have s2 := hA.size
  have s3 := hg4.size
  have key : ∀ i, i ≠ g → i ≠ r6 → i < V.heap.size → Z.heap[i]? = V.heap[i]? := fun i e1 e2 hi =>
    (hZ.block i (by omega)).trans ((hg4.block i (by omega) (fun e => e2 (by injection e))).trans ((hA.block i (by omega)).trans (hg3.block i hi (fun e => e1 (by injection e)))))
  refine ⟨below_on (below_grown (below_on (below_grown hB hg3 (fun k hk => by injection hk with hk; omega)) hA) hg4 (fun k hk => by injection hk with hk; omega)) hZ, ((hp3.below hA).kept hg4 (fun e => hne (by injection e))).below hZ, rdT_of l1 (fun ad e hn => ?_), rdT_of l2 (fun ad e hn => ?_)⟩
  · exact key _ (h1 ad e hn).1 (h1 ad e hn).2.1 (h1 ad e hn).2.2
  · exact key _ (h2 ad e hn).1 (h2 ad e hn).2.1 (h2 ad e hn).2.2
theorem disPacket_yes (p : Ea.Pkt) (w : World) (hp : p.ok) : Calls Tryd.prog 29 #[pktVal p] w fun e w' => e = .returned (.bool true) ∧ Below w.heap.size w w' := by
  have := isPacket_any p w
  rwa [show decide p.ok = true from decide_eq_true hp] at this
/-- The lists of a pair that open has made. -/
structure Lists (V : World) (lo g g1 g2 : Nat) (n1 n2 : Nat) (xs ys : List Ea.Item) : Prop where
  o1 : OwnL V lo (some ⟨g1, 0, none⟩) n1 n1 xs
  o2 : OwnL V lo (some ⟨g2, 0, none⟩) n2 n2 ys
  e1 : g1 ≠ g
  e2 : g2 ≠ g
  e12 : g1 ≠ g2
  lo1 : lo ≤ g1
  lo2 : lo ≤ g2
  hi1 : g1 < V.heap.size
  hi2 : g2 < V.heap.size
theorem Lists.grown {V V' : World} {lo g g1 g2 n1 n2 : Nat} {xs ys : List Ea.Item} (h : Lists V lo g g1 g2 n1 n2 xs ys) (hg : V.grownBy V' none) : Lists V' lo g g1 g2 n1 n2 xs ys :=
  ⟨h.o1.kept hg (fun _ _ _ e => by cases e), h.o2.kept hg (fun _ _ _ e => by cases e), h.e1, h.e2, h.e12, h.lo1, h.lo2, Nat.lt_of_lt_of_le h.hi1 hg.size, Nat.lt_of_lt_of_le h.hi2 hg.size⟩
theorem ownL_of {V : World} {lo b n g : Nat} {xs : List Ea.Item} (h : V.ownsRow b 51 9 (.slice (some ⟨g, 0, none⟩) n n) n (flatQ xs)) (hb : lo ≤ b) (hx : xs.length = n) : OwnL V lo (some ⟨g, 0, none⟩) n n xs := by
  rcases Nat.eq_zero_or_pos n with h0 | h0
  · subst h0
    exact Or.inl ⟨rfl, rfl, List.eq_nil_of_length_eq_zero hx⟩
  · exact Or.inr ⟨h0, owns_mono h hb⟩
set_option maxRecDepth 100000 in
set_option maxHeartbeats 4000000 in
theorem put_full (A B room : Int) (ab ao : Nat) (lc : Nat) (v0 v7 : Int) (s : Nat) (w : World) (a1 : Option Addr) (n1 c1 : Nat) (xs : List Ea.Item) (a2 : Option Addr) (n2 c2 : Nat) (ys : List Ea.Item) (hc1 : w.cell? ⟨ab, ao, none⟩ = some (.slice a1 n1 c1)) (hc2 : w.cell? ⟨ab, ao + 1, none⟩ = some (.slice a2 n2 c2)) (hr1 : RdQ w a1 n1 xs) (hr2 : RdQ w a2 n2 ys) (hq : Du.Ok A B room v0 v7 xs ys) (p : Ea.Pkt) (hpk : p.ok) (now : Int) (h0 : v7 ≤ now) (h1 : now ≤ 10000000) (hf : room ≤ (n1 : Int) + n2) :
    Calls Tryd.prog 12 #[.agg #[.int .i64 6, .int .i64 A, .int .i64 B, .int .i64 0, .int .i64 room, .slice (some ⟨ab, ao, none⟩) 2 lc, .int .i64 v0, .int .i64 0, .int .i64 0, .int .i64 0, .int .i64 0, .int .i64 0, .int .i64 0, .int .i64 v7, .int .u64 (s : Int)], pktVal p, .int .i64 now] w (DPutSays w A B room v0 now s xs ys [p]) := by
  have hlt := World.block_lt_of_cell? _ _ hc1
  have HC1 := Lib.hid hc1
  have HC2 := Lib.hid hc2
  have HR1 := Lib.hid hr1
  have HR2 := Lib.hid hr2
  have HQ := Lib.hid hq
  have HPK := Lib.hid hpk
  have hl1 := hr1.1
  have hl2 := hr2.1
  have hsh := hq.short
  clear hc1 hc2 hr1 hr2 hq hpk
  go_enter Tryd.func12, Tryd.ntmps12
  go_wp2_with fail
  refine (disPacket_yes p _ HPK.out).mono ?_
  rintro e w1 ⟨rfl, hb1⟩
  have hB1 : Below w.heap.size w w1 := below_on (below_new (below_new (below_new (Below.refl _ _) _) _) _) hb1
  have hq1 : Blk w1 w.heap.size [.int .i64 6, .int .i64 A, .int .i64 B, .int .i64 0, .int .i64 room, .slice (some ⟨ab, ao, none⟩) 2 lc, .int .i64 v0, .int .i64 0, .int .i64 0, .int .i64 0, .int .i64 0, .int .i64 0, .int .i64 0, .int .i64 v7, .int .u64 (s : Int)] := ((Blk.new w #[.int .i64 6, .int .i64 A, .int .i64 B, .int .i64 0, .int .i64 room, .slice (some ⟨ab, ao, none⟩) 2 lc, .int .i64 v0, .int .i64 0, .int .i64 0, .int .i64 0, .int .i64 0, .int .i64 0, .int .i64 0, .int .i64 v7, .int .u64 (s : Int)] 28).below (below_new (below_new (Below.refl _ _) _) _)).below hb1
  have hp1 : Blk w1 (w.heap.size + 1) (pktList p) := ((blk_new_at (w.alloc (.cells #[.int .i64 6, .int .i64 A, .int .i64 B, .int .i64 0, .int .i64 room, .slice (some ⟨ab, ao, none⟩) 2 lc, .int .i64 v0, .int .i64 0, .int .i64 0, .int .i64 0, .int .i64 0, .int .i64 0, .int .i64 0, .int .i64 v7, .int .u64 (s : Int)] 28)) (pktList p).toArray 30 (by simp)).below (below_new (Below.refl _ _) _)).below hb1
  have hr1 : Blk w1 (w.heap.size + 1 + 1) zeroDQ := (blk_new_at ((w.alloc (.cells #[.int .i64 6, .int .i64 A, .int .i64 B, .int .i64 0, .int .i64 room, .slice (some ⟨ab, ao, none⟩) 2 lc, .int .i64 v0, .int .i64 0, .int .i64 0, .int .i64 0, .int .i64 0, .int .i64 0, .int .i64 0, .int .i64 v7, .int .u64 (s : Int)] 28)).alloc (.cells (pktList p).toArray 30)) zeroDQ.toArray 28 (by simp)).below hb1
  have hz1 := hr1.lt
  have HB1 := Lib.hid hB1
  have HQ1 := Lib.hid hq1
  have HP1 := Lib.hid hp1
  have HR1' := Lib.hid hr1
  clear hB1 hq1 hp1 hr1 hb1
  go_wp2_with (refine wpList_load_mid rfl 28 _ rfl w.heap.size 0 rfl [.int .i64 6, .int .i64 A, .int .i64 B, .int .i64 0, .int .i64 room, .slice (some ⟨ab, ao, none⟩) 2 lc, .int .i64 v0, .int .i64 0, .int .i64 0, .int .i64 0, .int .i64 0, .int .i64 0, .int .i64 0, .int .i64 v7, .int .u64 (s : Int)] _ HQ1.out.range Tryd.underlying28 rfl (by kernel_rfl) ?_)
  refine (dopen_yes A B room ab ao lc v0 v7 s _ a1 n1 c1 xs a2 n2 c2 ys (below_cell_of HB1.out HC1.out) (below_cell_of HB1.out HC2.out) (HR1.out.below HB1.out) (HR2.out.below HB1.out) HQ.out now h0 h1).mono ?_
  rintro e w2 ⟨g, g1, g2, rfl, hb2, hp2, ho1, ho2, hg, hg1, hg2, hg12⟩
  have hls : Lists w2 (w.heap.size + 3) g g1 g2 n1 n2 xs ys := ⟨ownL_of ho1 (by omega) hl1, ownL_of ho2 (by omega) hl2, hg1, hg2, hg12, by have := (ho1.lt g1 rfl).1; omega, by have := (ho2.lt g2 rfl).1; omega, (ho1.lt g1 rfl).2, (ho2.lt g2 rfl).2⟩
  have hgw : w.heap.size + 3 ≤ g := by omega
  have hw2 : w.heap.size + 3 ≤ w2.heap.size := by have := hb2.size; omega
  have HLS := Lib.hid hls
  have HP2 := Lib.hid hp2
  have HB2 := Lib.hid (below_on HB1.out hb2)
  have HQ2 := Lib.hid (HQ1.out.below hb2)
  have HK2 := Lib.hid (HP1.out.below hb2)
  have HZ2 := Lib.hid (HR1'.out.below hb2)
  have k15 := hp2.cell 15 rfl
  have k16 := hp2.cell 16 rfl
  have q4 := HQ2.out.cell 4 rfl
  have hltg := hp2.lt
  have hW : IntKind.i64.wrap ((n1 : Int) + (n2 : Int)) = (n1 : Int) + (n2 : Int) := by rw [IntKind.wrap_i64]; omega
  clear hb2 hp2 ho1 ho2 hg hg1 hg2 hg12 hls HB1 HQ1 HP1 HR1' hz1
  have dl : decide (room ≤ (n1 : Int) + (n2 : Int)) = true := decide_eq_true (by omega)
  go_wp2
  go_quiet (fail)
  go_wp2
  obtain ⟨V, hV⟩ : ∃ V, w2.drewN nq = V := ⟨_, rfl⟩
  rw [hV]
  have hnv : w2.grownBy V none := hV ▸ grown_drewN w2 nq none
  have hsV : w2.heap.size ≤ V.heap.size := hV ▸ Nat.le_refl _
  have HPV := Lib.hid (HP2.out.kept hnv (by simp))
  have HKV := Lib.hid (HK2.out.kept hnv (by simp))
  have HZV := Lib.hid (HZ2.out.kept hnv (by simp))
  have HBV := Lib.hid (below_grown HB2.out hnv (fun k e => by cases e))
  have HLV := Lib.hid (HLS.out.grown hnv)
  clear hV hnv k15 k16 q4 HP2 HK2 HZ2 HB2 HLS HQ2
  refine wp_region_held_drew (S := (fun V => V.rangeAt (w.heap.size + 1) 0 (pktList p))) (by kernel_rfl) ?_ (fun hHeld => ?_)
  · exact HKV.out.range
  refine wpAnyH_take (i := 2) (v := (.agg (pktList p).toArray)) rfl (by kernel_rfl) (by kernel_rfl) (by kernel_rfl) (fun _ _ _ h => h) (yieldsIf_load_mid (by rfl) 30 _ rfl (w.heap.size + 1) 0 rfl (pktList p) _ (fun _ h => h) Tryd.underlying30 rfl (by kernel_rfl)) hHeld ?_
  try go_simp
  refine wpAnyH_take (i := 0) (v := ?_) rfl (by kernel_rfl) (by kernel_rfl) (by kernel_rfl) (fun _ _ _ h => h) (Or.inl ⟨by rfl, ?_⟩) hHeld ?_
  rotate_left
  · intro wS hSw; obtain hS0 := hSw; go_simp; try with_reducible rfl
  try go_simp
  refine wpAnyH_ready (rs := [1, 3]) (by kernel_rfl) (by simp) ?_
  refine AllReadyH.cons rfl (fun K hK => ?_) (AllReadyH.cons rfl (fun K hK => ?_) AllReadyH.nil)
  · go_simp
    refine (close_any _ g A B room _ _ v0 now s _ _ now (.slice none 0 0) (HPV.out.below (by repeat (first | exact Below.refl _ _ | refine below_drawnN ?_ _ | refine below_drawn ?_ | refine below_new ?_ _)))).mono ?_
    rintro e W3 ⟨rfl, hp3, hg3⟩
    have hG3 : V.grownBy W3 (some g) := grown_trans (grown_below (by exact (by repeat (first | exact Below.refl _ _ | refine below_drawnN ?_ _ | refine below_drawn ?_ | refine below_new ?_ _))) _) hg3
    refine hK.out _ _ ?_ (fun hHeld => ?_)
    · exact ((HKV.out.kept hG3 (by simp; omega))).range
    clear hK K
    try go_simp
    refine wpAnyH_ready (rs := [3, 4]) (by kernel_rfl) (by simp) ?_
    refine AllReadyH.cons rfl (fun K hK => ?_) (AllReadyH.cons rfl (fun K hK => ?_) AllReadyH.nil)
    · go_simp
      refine hK.out _ _ ?_ (fun hHeld => ?_)
      · exact rangeAt_below hHeld (below_new (Below.refl _ _) _)
      clear hK K
      try go_simp
      refine wpAnyH_ready (rs := [4]) (by kernel_rfl) (by simp) ?_
      refine AllReadyH.cons rfl (fun K hK => ?_) AllReadyH.nil
      refine ready_store_blk (by rfl) _ 28 _ _ rfl (w.heap.size + 1 + 1) zeroDQ (dqList A B room (some ⟨g, 15, none⟩) 2 v0 now s) rfl rfl ((HZV.out.kept hG3 (by simp; omega)).below (by repeat (first | exact Below.refl _ _ | refine below_drawnN ?_ _ | refine below_drawn ?_ | refine below_new ?_ _))) (by kernel_rfl) rfl (dqList_one _ _ _ _ _ _ _ _) ?_
      intro V4 hq4 hg4
      refine hK.out _ _ ?_ (fun hHeld => ?_)
      · exact rangeAt_kept hHeld hg4 (by simp)
      clear hK K
      try go_simp
      refine wpAnyH_take (i := 5) (v := ?_) rfl (by kernel_rfl) (by kernel_rfl) (by kernel_rfl) (fun _ _ _ h => h) (Or.inl ⟨by rfl, ?_⟩) hHeld ?_
      rotate_left
      · intro wS hSw; obtain hS0 := hSw; go_simp; try with_reducible rfl
      try go_simp
      refine wpAnyH_take (i := 6) (v := ?_) rfl (by kernel_rfl) (by kernel_rfl) (by kernel_rfl) (fun _ _ _ h => h) (Or.inl ⟨by rfl, ?_⟩) hHeld ?_
      rotate_left
      · intro wS hSw; obtain hS0 := hSw; go_simp; try with_reducible rfl
      try go_simp
      refine wpAnyH_done (by kernel_rfl) ?_ _
      obtain ⟨hB, hpZ, hx, hy⟩ := put_end HBV.out hG3 (below_new (Below.refl _ _) _) hg4 (Below.refl _ _) (by omega) (by omega) (by omega) hp3 HLV.out.o1.rdT (fun ad e hn => by injection e with e; subst e; exact ⟨HLV.out.e1, by have := HLV.out.lo1; simp; omega, HLV.out.hi1⟩) HLV.out.o2.rdT (fun ad e hn => by injection e with e; subst e; exact ⟨HLV.out.e2, by have := HLV.out.lo2; simp; omega, HLV.out.hi2⟩)
      have hrow : Blk V4 (W3.heap.size) (pktList p) := (Blk.new W3 (pktList p).toArray 30).kept hg4 (by simp; have := hG3.size; omega)
      go_wp2
      refine bodyPost_ret (results_c11 Tryd.results12 rfl (run_loadVar_mid _ (w.heap.size + 1 + 1) 0 28 (dqList A B room (some ⟨g, 15, none⟩) 2 v0 now s) _ (hq4).range Tryd.underlying28 rfl (by kernel_rfl))) rfl ?_
      rw [← hl1] at hx
      rw [← hl2] at hy
      refine ⟨g, some ⟨g1, 0, none⟩, n1, some ⟨g2, 0, none⟩, n2, _, rfl, hB, hpZ.cell 15 (by rw [hl1]; rfl), hpZ.cell 16 (by rw [hl2]; rfl), hx, hy, ⟨some ⟨W3.heap.size, 0, none⟩, 1, rfl, fun i hi => ⟨_, 0, rfl, ?_⟩⟩, by omega, fun ad n c e => by injection e with e; injection e with e; subst e; have := hG3.size; simp only; omega⟩
      obtain rfl : i = 0 := by simp at hi; omega
      exact hrow.range
    · refine ready_store_blk (by rfl) _ 28 _ _ rfl (w.heap.size + 1 + 1) zeroDQ (dqList A B room (some ⟨g, 15, none⟩) 2 v0 now s) rfl rfl ((HZV.out.kept hG3 (by simp; omega)).below (by repeat (first | exact Below.refl _ _ | refine below_drawnN ?_ _ | refine below_drawn ?_ | refine below_new ?_ _))) (by kernel_rfl) rfl (dqList_one _ _ _ _ _ _ _ _) ?_
      intro V4 hq4 hg4
      refine hK.out _ _ ?_ (fun hHeld => ?_)
      · exact rangeAt_kept hHeld hg4 (by simp)
      clear hK K
      try go_simp
      refine wpAnyH_ready (rs := [3]) (by kernel_rfl) (by simp) ?_
      refine AllReadyH.cons rfl (fun K hK => ?_) AllReadyH.nil
      go_simp
      refine hK.out _ _ ?_ (fun hHeld => ?_)
      · exact rangeAt_below hHeld (below_new (Below.refl _ _) _)
      clear hK K
      try go_simp
      refine wpAnyH_take (i := 5) (v := ?_) rfl (by kernel_rfl) (by kernel_rfl) (by kernel_rfl) (fun _ _ _ h => h) (Or.inl ⟨by rfl, ?_⟩) hHeld ?_
      rotate_left
      · intro wS hSw; obtain hS0 := hSw; go_simp; try with_reducible rfl
      try go_simp
      refine wpAnyH_take (i := 6) (v := ?_) rfl (by kernel_rfl) (by kernel_rfl) (by kernel_rfl) (fun _ _ _ h => h) (Or.inl ⟨by rfl, ?_⟩) hHeld ?_
      rotate_left
      · intro wS hSw; obtain hS0 := hSw; go_simp; try with_reducible rfl
      try go_simp
      refine wpAnyH_done (by kernel_rfl) ?_ _
      obtain ⟨hB, hpZ, hx, hy⟩ := put_end HBV.out hG3 (Below.refl _ _) hg4 (below_new (Below.refl _ _) _) (by omega) (by omega) (by omega) hp3 HLV.out.o1.rdT (fun ad e hn => by injection e with e; subst e; exact ⟨HLV.out.e1, by have := HLV.out.lo1; simp; omega, HLV.out.hi1⟩) HLV.out.o2.rdT (fun ad e hn => by injection e with e; subst e; exact ⟨HLV.out.e2, by have := HLV.out.lo2; simp; omega, HLV.out.hi2⟩)
      have hrow : Blk (V4.alloc (.cells (pktList p).toArray 30)) (V4.heap.size) (pktList p) := Blk.new V4 (pktList p).toArray 30
      go_wp2
      refine bodyPost_ret (results_c11 Tryd.results12 rfl (run_loadVar_mid _ (w.heap.size + 1 + 1) 0 28 (dqList A B room (some ⟨g, 15, none⟩) 2 v0 now s) _ ((hq4.below (below_new (Below.refl _ _) _))).range Tryd.underlying28 rfl (by kernel_rfl))) rfl ?_
      rw [← hl1] at hx
      rw [← hl2] at hy
      refine ⟨g, some ⟨g1, 0, none⟩, n1, some ⟨g2, 0, none⟩, n2, _, rfl, hB, hpZ.cell 15 (by rw [hl1]; rfl), hpZ.cell 16 (by rw [hl2]; rfl), hx, hy, ⟨some ⟨V4.heap.size, 0, none⟩, 1, rfl, fun i hi => ⟨_, 0, rfl, ?_⟩⟩, by omega, fun ad n c e => by injection e with e; injection e with e; subst e; have z1 := hG3.size; have z2 := hg4.size; simp only at z1 z2 ⊢; omega⟩
      obtain rfl : i = 0 := by simp at hi; omega
      exact hrow.range

  · go_simp
    refine hK.out _ _ ?_ (fun hHeld => ?_)
    · exact rangeAt_below hHeld (below_new (Below.refl _ _) _)
    clear hK K
    try go_simp
    refine wpAnyH_ready (rs := [1]) (by kernel_rfl) (by simp) ?_
    refine AllReadyH.cons rfl (fun K hK => ?_) AllReadyH.nil
    go_simp
    refine (close_any _ g A B room _ _ v0 now s _ _ now (.slice none 0 0) (HPV.out.below (by repeat (first | exact Below.refl _ _ | refine below_drawnN ?_ _ | refine below_drawn ?_ | refine below_new ?_ _)))).mono ?_
    rintro e W3 ⟨rfl, hp3, hg3⟩
    have hG3 : V.grownBy W3 (some g) := grown_trans (grown_below (by exact (by repeat (first | exact Below.refl _ _ | refine below_drawnN ?_ _ | refine below_drawn ?_ | refine below_new ?_ _))) _) hg3
    refine hK.out _ _ ?_ (fun hHeld => ?_)
    · exact ((HKV.out.kept hG3 (by simp; omega))).range
    clear hK K
    try go_simp
    refine wpAnyH_ready (rs := [4]) (by kernel_rfl) (by simp) ?_
    refine AllReadyH.cons rfl (fun K hK => ?_) AllReadyH.nil
    refine ready_store_blk (by rfl) _ 28 _ _ rfl (w.heap.size + 1 + 1) zeroDQ (dqList A B room (some ⟨g, 15, none⟩) 2 v0 now s) rfl rfl ((HZV.out.kept hG3 (by simp; omega)).below (by repeat (first | exact Below.refl _ _ | refine below_drawnN ?_ _ | refine below_drawn ?_ | refine below_new ?_ _))) (by kernel_rfl) rfl (dqList_one _ _ _ _ _ _ _ _) ?_
    intro V4 hq4 hg4
    refine hK.out _ _ ?_ (fun hHeld => ?_)
    · exact rangeAt_kept hHeld hg4 (by simp)
    clear hK K
    try go_simp
    refine wpAnyH_take (i := 5) (v := ?_) rfl (by kernel_rfl) (by kernel_rfl) (by kernel_rfl) (fun _ _ _ h => h) (Or.inl ⟨by rfl, ?_⟩) hHeld ?_
    rotate_left
    · intro wS hSw; obtain hS0 := hSw; go_simp; try with_reducible rfl
    try go_simp
    refine wpAnyH_take (i := 6) (v := ?_) rfl (by kernel_rfl) (by kernel_rfl) (by kernel_rfl) (fun _ _ _ h => h) (Or.inl ⟨by rfl, ?_⟩) hHeld ?_
    rotate_left
    · intro wS hSw; obtain hS0 := hSw; go_simp; try with_reducible rfl
    try go_simp
    refine wpAnyH_done (by kernel_rfl) ?_ _
    obtain ⟨hB, hpZ, hx, hy⟩ := put_end HBV.out hG3 (Below.refl _ _) hg4 (Below.refl _ _) (by omega) (by omega) (by omega) hp3 HLV.out.o1.rdT (fun ad e hn => by injection e with e; subst e; exact ⟨HLV.out.e1, by have := HLV.out.lo1; simp; omega, HLV.out.hi1⟩) HLV.out.o2.rdT (fun ad e hn => by injection e with e; subst e; exact ⟨HLV.out.e2, by have := HLV.out.lo2; simp; omega, HLV.out.hi2⟩)
    have hrow : Blk V4 (V.heap.size) (pktList p) := (show Blk W3 V.heap.size (pktList p) from Blk.kept (by first | exact Blk.new V.drew (pktList p).toArray 30 | exact (Blk.new V (pktList p).toArray 30).below (below_drawn (Below.refl _ _))) hg3 (by simp; omega)).kept hg4 (by simp; omega)
    go_wp2
    refine bodyPost_ret (results_c11 Tryd.results12 rfl (run_loadVar_mid _ (w.heap.size + 1 + 1) 0 28 (dqList A B room (some ⟨g, 15, none⟩) 2 v0 now s) _ (hq4).range Tryd.underlying28 rfl (by kernel_rfl))) rfl ?_
    rw [← hl1] at hx
    rw [← hl2] at hy
    refine ⟨g, some ⟨g1, 0, none⟩, n1, some ⟨g2, 0, none⟩, n2, _, rfl, hB, hpZ.cell 15 (by rw [hl1]; rfl), hpZ.cell 16 (by rw [hl2]; rfl), hx, hy, ⟨some ⟨V.heap.size, 0, none⟩, 1, rfl, fun i hi => ⟨_, 0, rfl, ?_⟩⟩, by omega, fun ad n c e => by injection e with e; injection e with e; subst e; have z1 := hG3.size; have z2 := hg4.size; simp only at z1 z2 ⊢; omega⟩
    obtain rfl : i = 0 := by simp at hi; omega
    exact hrow.range
end Go.Proofs.YtdecclklenaoaaaDoor
