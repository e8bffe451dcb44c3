/- second of package dual. -/
import Derived.Test.YtdecclklenaoaaaDoorDuFirst
import Derived.Test.YtdecclklenaoaaaDoorEaPk
import Derived.Maps.AppendAt
namespace Go.Proofs.YtdecclklenaoaaaDoor
open Go.RowKit

/-- The second list is served, and its packet is taken. -/
def SecondSays (W : World) (g : Nat) (A B room : Int) (la : Option Addr) (lc : Nat) (v7 : Int) (s : Nat) (l1 : Value) (b o n : Nat) (now : Int) (dr : Value) (p : Ea.Pkt) (e : Ending) (V : World) : Prop :=
  e = .returned (.tuple #[pktVal p, .bool true]) ∧ W.grownBy V (some g) ∧ ∃ a' c', Blk V g (pairList A B room la lc 0 v7 s l1 (.slice a' (n - 1) c') now dr) ∧ (n - 1 ≤ c' ∧ c' ≤ 100000) ∧ (0 < n - 1 → a' = some ⟨b, o + 9, none⟩)
/-- What a call leaves alone that writes to two blocks. -/
structure Leaves (W V : World) (g : Nat) (r : Option Nat) : Prop where
  os : V.os = W.os
  tape : V.tape = W.tape
  output : V.output = W.output
  size : W.heap.size ≤ V.heap.size
  block : ∀ i, i < W.heap.size → i ≠ g → some i ≠ r → V.heap[i]? = W.heap[i]?
theorem Leaves.of {W V : World} {g : Nat} {r : Option Nat} (h : W.grownBy V (some g)) : Leaves W V g r := ⟨h.os, h.tape, h.output, h.size, fun i hi hne _ => h.block i hi (fun e => hne (by injection e))⟩
theorem Leaves.step {W V V' : World} {g : Nat} {r row : Option Nat} (h : Leaves W V g r) (k : V.grownBy V' row) (hr : ∀ j, row = some j → j = g ∨ r = some j ∨ W.heap.size ≤ j) : Leaves W V' g r :=
  ⟨k.os.trans h.os, k.tape.trans h.tape, k.output.trans h.output, Nat.le_trans h.size k.size, fun i hi h1 h2 => (k.block i (Nat.lt_of_lt_of_le hi h.size) (fun e => by
    rcases hr i e.symm with h3 | h3 | h3
    · exact h1 h3
    · exact h2 h3.symm
    · omega)).trans (h.block i hi h1 h2)⟩
/-- The second list is served, and its packet is dropped. -/
def DropSays (W : World) (g : Nat) (A B room : Int) (la : Option Addr) (lc : Nat) (v7 : Int) (s : Nat) (l1 : Value) (b o n : Nat) (now : Int) (base : Nat) (dr : Value) (drops : List Ea.Pkt) (e : Ending) (V : World) : Prop :=
  e = .returned (.tuple #[pktVal default, .bool false]) ∧ Leaves W V g dr.ownBlock ∧ ∃ a' c' dr', Blk V g (pairList A B room la lc 0 v7 s l1 (.slice a' (n - 1) c') now dr') ∧ (n - 1 ≤ c' ∧ c' ≤ 100000) ∧ (0 < n - 1 → a' = some ⟨b, o + 9, none⟩) ∧ OwnP V base dr' drops
/-- One packet more, in a region that draws. -/
theorem ready_add_pkt {o : Oper} {a : Act} {w : World} {K : Act → World → Prop} {Q : Exit → Act → World → Prop} {wn : Bool} (hw : wn = true) (hgd : Prop) {v : Value} {base : Nat} {xs : List Ea.Pkt} (s x : Operand) (ho : o.op = .call { callee := .builtin .append, args := #[s, x], argTypes := #[33, 33] })
    (hs : a.eval s = v) (hk : OwnP w base v xs) (hbase : base ≤ w.heap.size) (b of : Nat) (p : Ea.Pkt) (hx : a.eval x = .slice (some ⟨b, of, none⟩) 1 1) (hr : w.rangeAt b of (pktList p)) (hn : xs.length ≤ 2000)
    (h : ∀ v' V, OwnP V base v' (xs ++ [p]) → w.grownBy V v.ownBlock → (v'.ownBlock = v.ownBlock ∨ v'.ownBlock = some w.heap.size) → K (a.put o.dst v') V) : if wn = true then Oper.wp Tryd.prog o a w K Q else hgd := by
  rw [if_pos hw]
  obtain ⟨i0, hi, hz0, hz1, hz2⟩ := info_parts info_pkt
  obtain ⟨v', V, hr', h1, h2, _, h3⟩ := run_append_own_at (P := Tryd.prog) w base 33 o.type 30 i0 _ 8 56 Tryd.underlying33 hi hz0 hz1 hz2 rfl (by decide) v xs.length (flatP xs) hk ⟨b, of, none⟩ 1 1 (pktList p) rfl (fun j u hj => by rw [Addr.add_mid]; exact hr j u hj) (pktList_one p) (by unfold maxLen; omega) (by omega) hbase
  rw [← flatP_snoc] at h1
  unfold Oper.wp execOp
  simp only [ho, resolve, invoke, builtin, Sem.run_bind, Sem.run_pure, Result.andThen_ok, List.map_toArray, List.map_cons, List.map_nil, hs, hx, hr']
  exact h v' V (by unfold OwnP; rw [List.length_append]; exact h1) h2 h3
set_option maxRecDepth 100000 in
set_option maxHeartbeats 4000000 in
theorem second_take (W : World) (g : Nat) (A B room : Int) (la : Option Addr) (lc : Nat) (v0 v7 : Int) (s : Nat) (b o n c : Nat) (l1 : Value) (now : Int) (dr : Value) (x : Ea.Item) (hp : Blk W g (pairList A B room la lc v0 v7 s l1 (.slice (some ⟨b, o, none⟩) n c) now dr)) (hr : W.rangeAt b o (itemList x)) (hbg : b ≠ g) (hn : 0 < n) (hc : n ≤ c) (hs : c ≤ 100000) (ht : ∀ V, W.grownBy V (some g) → Table V) (k : Int) (k0 : 0 ≤ k) (k1 : k ≤ 1000000) (hk : PressSays W g A B room la lc 0 v7 s (.slice (some ⟨b, o, none⟩) n c) now dr k) (hbo : decide (Du.rnd s < k * k / 1000000) = false) :
    Calls Tryd.prog 35 #[.pointer (some ⟨g, 0, none⟩)] W fun e V => SecondSays W g A B room la lc v7 (Rand.nextSeed s) l1 b o n now dr x.p e V := by
  have k6 := hp.cell 6 rfl
  have f6 := hp.frozen ⟨g, 6, none⟩ rfl
  have lt := hp.lt
  have hkk : 0 ≤ k * k ∧ k * k ≤ 1000000000000 := by
    refine ⟨Int.mul_nonneg k0 k0, ?_⟩
    have h1 : k * k ≤ 1000000 * k := Int.mul_le_mul_of_nonneg_right k1 k0
    omega
  have e1 : IntKind.i64.wrap (k * k) = k * k := by
    generalize k * k = z at hkk ⊢
    rw [IntKind.wrap_i64]
    omega
  have HP := Lib.hid hp
  have HR := Lib.hid hr
  have HT := Lib.hid ht
  have HK := Lib.hid hk
  have HBO := Lib.hid hbo
  clear hp hr ht hk hbo
  go_enter Tryd.func35, Tryd.ntmps35
  go_wp2_with fail
  have h1 : Blk ((W.setCell ⟨g, 6, none⟩ (.int .i64 0)).alloc (.cells zeroP.toArray 30)) g (pairList A B room la lc 0 v7 s l1 (.slice (some ⟨b, o, none⟩) n c) now dr) := (HP.out.set 6 _).below (below_new (Below.refl _ _) _)
  have hg1 : W.grownBy ((W.setCell ⟨g, 6, none⟩ (.int .i64 0)).alloc (.cells zeroP.toArray 30)) (some g) := grown_trans (grown_set W ⟨g, 6, none⟩ _) (grown_below (below_new (Below.refl _ _) _) _)
  have hz1 : Blk ((W.setCell ⟨g, 6, none⟩ (.int .i64 0)).alloc (.cells zeroP.toArray 30)) W.heap.size zeroP := blk_new_at _ zeroP.toArray 30 (by simp only [World.size_setCell])
  refine (HK.out _ _ hg1 h1).mono ?_
  rintro e V1 ⟨rfl, hb1⟩
  have HP1 := Lib.hid (h1.below hb1)
  have HG1 := Lib.hid (grown_trans hg1 (grown_below hb1 _))
  have HZ1 := Lib.hid (hz1.below hb1)
  have HR1 := Lib.hid (rangeAt_kept HR.out HG1.out (by simp; omega))
  clear h1 hg1 hz1 hb1 k6 f6
  go_wp2_with fail
  refine (serve_1 V1 g A B room la lc 0 v7 s b o n c l1 now dr x HP1.out HR1.out hn hc hs).mono ?_
  rintro e V2 ⟨rfl, hg2, a', c', hp2, hc1, ha1⟩
  have HG2 := Lib.hid (grown_trans HG1.out hg2)
  have HZ2 := Lib.hid (HZ1.out.kept hg2 (by simp; omega))
  have hlt2 := HZ2.out.lt
  have HP2 := Lib.hid hp2
  have HA1 := Lib.hid ha1
  have hltg := hp2.lt
  clear hg2 hp2 ha1 HP1 HG1 HZ1 HR1
  have h3 := chance_any (V2.alloc (.cells (itemList x).toArray 51)) g A B room la lc 0 v7 s l1 (.slice a' (n - 1) c') now dr (k * k / 1000000) (HP2.out.below (below_new (Below.refl _ _) _)) (HT.out _ (grown_trans HG2.out (grown_below (below_new (Below.refl _ _) _) _)))
  rw [HBO.out] at h3
  have H3 := Lib.hid h3
  clear h3
  go_wp2_with (first | (refine wpList_store_new rfl 51 _ _ rfl _ (itemList x).toArray rfl rfl (by kernel_rfl) rfl rfl ?_))
  refine H3.out.mono ?_
  rintro e V3 ⟨rfl, hg3, hp3⟩
  have HG3 := Lib.hid (grown_trans HG2.out (grown_trans (grown_below (below_new (Below.refl _ _) _) _) hg3))
  have HP3 := Lib.hid hp3
  have HZ3 := Lib.hid ((HZ2.out.below (below_new (Below.refl _ _) _)).kept hg3 (by simp; omega))
  have HI3 := Lib.hid ((Blk.new V2 (itemList x).toArray 51).kept hg3 (by simp; omega))
  have hz3 := HI3.out.lt
  clear H3 hg3 hp3 HG2 HP2 HZ2
  go_wp2_with (first | (refine wpList_load_mid rfl 30 _ rfl V2.heap.size 0 rfl (pktList x.p) _ (range_mid [] _ [.int .i64 x.since] (Blk.range HI3.out)) Tryd.underlying30 rfl (by kernel_rfl) ?_) | (refine wpList_store_blk rfl 30 _ _ rfl W.heap.size zeroP (pktList x.p) rfl rfl HZ3.out (by kernel_rfl) rfl (pktList_one _) ?_; intro V8 hp8 hg8))
  refine bodyPost_ret (results_c1 Tryd.results35 rfl (run_loadVar_mid _ W.heap.size 0 30 (pktList x.p) _ hp8.range Tryd.underlying30 rfl (by kernel_rfl))) rfl ?_
  exact ⟨rfl, grown_new HG3.out hg8 (Nat.le_refl _), a', c', Blk.kept HP3.out hg8 (by simp; omega), hc1, HA1.out⟩
set_option maxRecDepth 100000 in
set_option maxHeartbeats 4000000 in
theorem second_drop (W : World) (g : Nat) (A B room : Int) (la : Option Addr) (lc : Nat) (v0 v7 : Int) (s : Nat) (b o n c : Nat) (l1 : Value) (now : Int) (dr : Value) (x : Ea.Item) (hp : Blk W g (pairList A B room la lc v0 v7 s l1 (.slice (some ⟨b, o, none⟩) n c) now dr)) (hr : W.rangeAt b o (itemList x)) (hbg : b ≠ g) (hn : 0 < n) (hc : n ≤ c) (hs : c ≤ 100000) (ht : ∀ V, W.grownBy V (some g) → Table V) (k : Int) (k0 : 0 ≤ k) (k1 : k ≤ 1000000) (hk : PressSays W g A B room la lc 0 v7 s (.slice (some ⟨b, o, none⟩) n c) now dr k) (hbo : decide (Du.rnd s < k * k / 1000000) = true) (base : Nat) (drops : List Ea.Pkt) (ho : OwnP W base dr drops) (hbs : base ≤ W.heap.size) (hnd : dr.ownBlock ≠ some g) (hd6 : drops.length ≤ 600) :
    Calls Tryd.prog 35 #[.pointer (some ⟨g, 0, none⟩)] W fun e V => DropSays W g A B room la lc v7 (Rand.nextSeed s) l1 b o n now base dr (drops ++ [x.p]) e V := by
  have k6 := hp.cell 6 rfl
  have f6 := hp.frozen ⟨g, 6, none⟩ rfl
  have lt := hp.lt
  have hkk : 0 ≤ k * k ∧ k * k ≤ 1000000000000 := by
    refine ⟨Int.mul_nonneg k0 k0, ?_⟩
    have h1 : k * k ≤ 1000000 * k := Int.mul_le_mul_of_nonneg_right k1 k0
    omega
  have e1 : IntKind.i64.wrap (k * k) = k * k := by
    generalize k * k = z at hkk ⊢
    rw [IntKind.wrap_i64]
    omega
  have HP := Lib.hid hp
  have HR := Lib.hid hr
  have HT := Lib.hid ht
  have HK := Lib.hid hk
  have HBO := Lib.hid hbo
  have HO := Lib.hid ho
  clear ho
  clear hp hr ht hk hbo
  go_enter Tryd.func35, Tryd.ntmps35
  go_wp2_with fail
  have h1 : Blk ((W.setCell ⟨g, 6, none⟩ (.int .i64 0)).alloc (.cells zeroP.toArray 30)) g (pairList A B room la lc 0 v7 s l1 (.slice (some ⟨b, o, none⟩) n c) now dr) := (HP.out.set 6 _).below (below_new (Below.refl _ _) _)
  have hg1 : W.grownBy ((W.setCell ⟨g, 6, none⟩ (.int .i64 0)).alloc (.cells zeroP.toArray 30)) (some g) := grown_trans (grown_set W ⟨g, 6, none⟩ _) (grown_below (below_new (Below.refl _ _) _) _)
  have hz1 : Blk ((W.setCell ⟨g, 6, none⟩ (.int .i64 0)).alloc (.cells zeroP.toArray 30)) W.heap.size zeroP := blk_new_at _ zeroP.toArray 30 (by simp only [World.size_setCell])
  refine (HK.out _ _ hg1 h1).mono ?_
  rintro e V1 ⟨rfl, hb1⟩
  have HP1 := Lib.hid (h1.below hb1)
  have HG1 := Lib.hid (grown_trans hg1 (grown_below hb1 _))
  have HZ1 := Lib.hid (hz1.below hb1)
  have HR1 := Lib.hid (rangeAt_kept HR.out HG1.out (by simp; omega))
  clear h1 hg1 hz1 hb1 k6 f6
  go_wp2_with fail
  refine (serve_1 V1 g A B room la lc 0 v7 s b o n c l1 now dr x HP1.out HR1.out hn hc hs).mono ?_
  rintro e V2 ⟨rfl, hg2, a', c', hp2, hc1, ha1⟩
  have HG2 := Lib.hid (grown_trans HG1.out hg2)
  have HZ2 := Lib.hid (HZ1.out.kept hg2 (by simp; omega))
  have hlt2 := HZ2.out.lt
  have HP2 := Lib.hid hp2
  have HA1 := Lib.hid ha1
  have hltg := hp2.lt
  clear hg2 hp2 ha1 HP1 HG1 HZ1 HR1
  have h3 := chance_any (V2.alloc (.cells (itemList x).toArray 51)) g A B room la lc 0 v7 s l1 (.slice a' (n - 1) c') now dr (k * k / 1000000) (HP2.out.below (below_new (Below.refl _ _) _)) (HT.out _ (grown_trans HG2.out (grown_below (below_new (Below.refl _ _) _) _)))
  rw [HBO.out] at h3
  have H3 := Lib.hid h3
  clear h3
  go_wp2_with (first | (refine wpList_store_new rfl 51 _ _ rfl _ (itemList x).toArray rfl rfl (by kernel_rfl) rfl rfl ?_))
  refine H3.out.mono ?_
  rintro e V3 ⟨rfl, hg3, hp3⟩
  have HG3 := Lib.hid (grown_trans HG2.out (grown_trans (grown_below (below_new (Below.refl _ _) _) _) hg3))
  have HP3 := Lib.hid hp3
  have HZ3 := Lib.hid ((HZ2.out.below (below_new (Below.refl _ _) _)).kept hg3 (by simp; omega))
  have HI3 := Lib.hid ((Blk.new V2 (itemList x).toArray 51).kept hg3 (by simp; omega))
  have hz3 := HI3.out.lt
  clear H3 hg3 hp3 HG2 HP2 HZ2
  have HO3 := Lib.hid (HO.out.kept HG3.out (Or.inr hnd))
  have hod := fun j hj => (HO.out.lt j hj).2
  have c18 := HP3.out.cell 18 rfl
  have f18 := HP3.out.frozen ⟨g, 18, none⟩ rfl
  have ltg3 := HP3.out.lt
  have hsz := HG3.out.size
  go_wp2
  refine wp_region_held_drew (S := (fun V => V.rangeAt V2.heap.size 0 (pktList x.p))) (by kernel_rfl) ?_ (fun hHeld => ?_)
  · exact (range_mid [] (pktList x.p) [.int .i64 x.since] (Blk.range HI3.out))
  refine wpAnyH_take (i := 0) (v := ?_) rfl (by kernel_rfl) (by kernel_rfl) (by kernel_rfl) (fun _ _ _ h => h) (Or.inl ⟨by rfl, ?_⟩) hHeld ?_
  rotate_left
  · intro wS hSw; obtain hS0 := hSw; go_simp; try with_reducible rfl
  try go_simp
  refine wpAnyH_take (i := 1) (v := ?_) rfl (by kernel_rfl) (by kernel_rfl) (by kernel_rfl) (fun _ _ _ h => h) (Or.inl ⟨by rfl, ?_⟩) hHeld ?_
  rotate_left
  · intro wS hSw; obtain hS0 := hSw; go_simp; try with_reducible rfl
  try go_simp
  refine wpAnyH_take (i := 2) (v := ?_) rfl (by kernel_rfl) (by kernel_rfl) (by kernel_rfl) (fun _ _ _ h => h) (Or.inl ⟨by rfl, ?_⟩) hHeld ?_
  rotate_left
  · intro wS hSw; obtain hS0 := hSw; go_simp; try with_reducible rfl
  try go_simp
  refine wpAnyH_take (i := 3) (v := ?_) rfl (by kernel_rfl) (by kernel_rfl) (by kernel_rfl) (fun _ _ _ h => h) (Or.inl ⟨by rfl, ?_⟩) hHeld ?_
  rotate_left
  · intro wS hSw; obtain hS0 := hSw; go_simp; try with_reducible rfl
  try go_simp
  refine wpAnyH_take (i := 5) (v := ?_) rfl (by kernel_rfl) (by kernel_rfl) (by kernel_rfl) (fun _ _ _ h => h) (Or.inl ⟨by rfl, ?_⟩) hHeld ?_
  rotate_left
  · intro wS hSw; obtain hS0 := hSw; go_simp; try with_reducible rfl
  try go_simp
  refine wpAnyH_take (i := 6) (v := (.agg (pktList x.p).toArray)) rfl (by kernel_rfl) (by kernel_rfl) (by kernel_rfl) (fun _ _ _ h => h) (yieldsIf_load_mid (by rfl) 30 _ rfl V2.heap.size 0 rfl (pktList x.p) _ (fun _ h => h) Tryd.underlying30 rfl (by kernel_rfl)) hHeld ?_
  try go_simp
  refine wpAnyH_ready (rs := [4, 7]) (by kernel_rfl) (by simp) ?_
  refine AllReadyH.cons rfl (fun K hK => ?_) (AllReadyH.cons rfl (fun K hK => ?_) AllReadyH.nil)
  · go_simp
    refine hK.out _ _ ?_ (fun hHeld => ?_)
    · exact hHeld
    clear hK K
    try go_simp
    refine wpAnyH_ready (rs := [7]) (by kernel_rfl) (by simp) ?_
    refine AllReadyH.cons rfl (fun K hK => ?_) AllReadyH.nil
    go_simp
    refine hK.out _ _ ?_ (fun hHeld => ?_)
    · exact rangeAt_below hHeld (below_new (Below.refl _ _) _)
    clear hK K
    try go_simp
    refine wpAnyH_ready (rs := [8]) (by kernel_rfl) (by simp) ?_
    refine AllReadyH.cons rfl (fun K hK => ?_) AllReadyH.nil
    refine ready_add_pkt (by rfl) _ _ _ rfl rfl (own_below8 HO3.out (by exact below_new (below_drawn (Below.refl _ _)) _)) (by simp; omega) V3.heap.size 0 x.p rfl (by exact (Blk.new V3 (pktList x.p).toArray 30).range) (by omega) ?_
    intro v' V5 hown5 hgr5 hob5
    obtain ⟨av, cv, ev⟩ := hown5.slice
    obtain ⟨nv, hnv⟩ : ∃ m, (drops ++ [x.p]).length = m := ⟨_, rfl⟩
    rw [hnv] at ev
    subst ev
    clear hnv
    have hp5 := blk_thru HP3.out hgr5 (fun e => hnd e.symm) (by exact below_new (below_drawn (Below.refl _ _)) _)
    have c5 := hp5.cell 18 rfl
    have f5 := hp5.frozen ⟨g, 18, none⟩ rfl
    refine hK.out _ _ ?_ (fun hHeld => ?_)
    · exact rangeAt_kept hHeld hgr5 (fun e => by have := hod _ e.symm; omega)
    clear hK K
    try go_simp
    refine wpAnyH_take (i := 9) (v := ?_) rfl (by kernel_rfl) (by kernel_rfl) (by kernel_rfl) (fun _ _ _ h => h) (Or.inl ⟨by rfl, ?_⟩) hHeld ?_
    rotate_left
    · intro wS hSw; obtain hS0 := hSw; go_simp; try with_reducible rfl
    try go_simp
    refine wpAnyH_take (i := 10) (v := ?_) rfl (by kernel_rfl) (by kernel_rfl) (by kernel_rfl) (fun _ _ _ h => h) (Or.inl ⟨by rfl, ?_⟩) hHeld ?_
    rotate_left
    · intro wS hSw; obtain hS0 := hSw; go_simp; try with_reducible rfl
    try go_simp
    refine wpAnyH_ready (rs := [11]) (by kernel_rfl) (by simp) ?_
    refine AllReadyH.cons rfl (fun K hK => ?_) AllReadyH.nil
    go_simp
    refine hK.out _ _ ?_ (fun hHeld => ?_)
    · exact rangeAt_kept hHeld (grown_set _ ⟨g, 18, none⟩ _) (by simp; omega)
    clear hK K
    try go_simp
    refine wpAnyH_done (by kernel_rfl) ?_ _
    have hw5 : W.heap.size ≤ V3.heap.size := by omega
    have hz6 := (blk_thru HZ3.out hgr5 (fun e => by have := hod _ e.symm; omega) (by exact below_new (below_drawn (Below.refl _ _)) _)).kept (grown_set V5 ⟨g, 18, none⟩ (.slice av nv cv)) (by simp; omega)
    have hL : Leaves W (V5.setCell ⟨g, 18, none⟩ (.slice av nv cv)) g dr.ownBlock := (((Leaves.of HG3.out).step (row := none) (grown_below (by exact below_new (below_drawn (Below.refl _ _)) _) none) (fun j h => by cases h)).step hgr5 (fun j h => Or.inr (Or.inl h))).step (grown_set _ ⟨g, 18, none⟩ _) (fun j h => Or.inl (by injection h with h; exact h.symm))
    have hb6 := hp5.set 18 (.slice av nv cv)
    have ho6 := hown5.kept (grown_set V5 ⟨g, 18, none⟩ (.slice av nv cv)) (Or.inr (ownP_apart hown5 (j := 5) (by omega) (hp5.cell 5 rfl) (by simp)))
    have hob6 : (Value.slice av nv cv).ownBlock ≠ some W.heap.size := fun e => by
      rcases hob5 with h | h
      · have := hod _ (h.symm.trans e); omega
      · rw [e] at h; injection h with h; simp at h; omega
    have HZ6 := Lib.hid hz6
    have HL6 := Lib.hid hL
    have HB6 := Lib.hid hb6
    have HO6 := Lib.hid ho6
    have HOB6 := Lib.hid hob6
    clear hz6 hL hb6 ho6 hob6 hp5 hown5 hgr5 hob5 c5 f5 hHeld
    go_wp2_with (first | (refine wpList_store_blk rfl 30 _ _ rfl W.heap.size zeroP (pktList default) rfl rfl HZ6.out (by kernel_rfl) rfl (pktList_one _) ?_; intro V8 hp8 hg8))
    refine bodyPost_ret (results_c1 Tryd.results35 rfl (run_loadVar_mid _ W.heap.size 0 30 (pktList default) _ hp8.range Tryd.underlying30 rfl (by kernel_rfl))) rfl ?_
    exact ⟨rfl, HL6.out.step hg8 (fun j h => Or.inr (Or.inr (by injection h with h; omega))), a', c', _, HB6.out.kept hg8 (by simp; omega), hc1, HA1.out, HO6.out.kept hg8 (Or.inr HOB6.out)⟩
  · go_simp
    refine hK.out _ _ ?_ (fun hHeld => ?_)
    · exact rangeAt_below hHeld (below_new (Below.refl _ _) _)
    clear hK K
    try go_simp
    refine wpAnyH_ready (rs := [4]) (by kernel_rfl) (by simp) ?_
    refine AllReadyH.cons rfl (fun K hK => ?_) AllReadyH.nil
    go_simp
    refine hK.out _ _ ?_ (fun hHeld => ?_)
    · exact hHeld
    clear hK K
    try go_simp
    refine wpAnyH_ready (rs := [8]) (by kernel_rfl) (by simp) ?_
    refine AllReadyH.cons rfl (fun K hK => ?_) AllReadyH.nil
    refine ready_add_pkt (by rfl) _ _ _ rfl rfl (own_below8 HO3.out (by exact below_new (below_drawn (Below.refl _ _)) _)) (by simp; omega) V3.heap.size 0 x.p rfl (by exact (Blk.new V3 (pktList x.p).toArray 30).range) (by omega) ?_
    intro v' V5 hown5 hgr5 hob5
    obtain ⟨av, cv, ev⟩ := hown5.slice
    obtain ⟨nv, hnv⟩ : ∃ m, (drops ++ [x.p]).length = m := ⟨_, rfl⟩
    rw [hnv] at ev
    subst ev
    clear hnv
    have hp5 := blk_thru HP3.out hgr5 (fun e => hnd e.symm) (by exact below_new (below_drawn (Below.refl _ _)) _)
    have c5 := hp5.cell 18 rfl
    have f5 := hp5.frozen ⟨g, 18, none⟩ rfl
    refine hK.out _ _ ?_ (fun hHeld => ?_)
    · exact rangeAt_kept hHeld hgr5 (fun e => by have := hod _ e.symm; omega)
    clear hK K
    try go_simp
    refine wpAnyH_take (i := 9) (v := ?_) rfl (by kernel_rfl) (by kernel_rfl) (by kernel_rfl) (fun _ _ _ h => h) (Or.inl ⟨by rfl, ?_⟩) hHeld ?_
    rotate_left
    · intro wS hSw; obtain hS0 := hSw; go_simp; try with_reducible rfl
    try go_simp
    refine wpAnyH_take (i := 10) (v := ?_) rfl (by kernel_rfl) (by kernel_rfl) (by kernel_rfl) (fun _ _ _ h => h) (Or.inl ⟨by rfl, ?_⟩) hHeld ?_
    rotate_left
    · intro wS hSw; obtain hS0 := hSw; go_simp; try with_reducible rfl
    try go_simp
    refine wpAnyH_ready (rs := [11]) (by kernel_rfl) (by simp) ?_
    refine AllReadyH.cons rfl (fun K hK => ?_) AllReadyH.nil
    go_simp
    refine hK.out _ _ ?_ (fun hHeld => ?_)
    · exact rangeAt_kept hHeld (grown_set _ ⟨g, 18, none⟩ _) (by simp; omega)
    clear hK K
    try go_simp
    refine wpAnyH_done (by kernel_rfl) ?_ _
    have hw5 : W.heap.size ≤ V3.heap.size := by omega
    have hz6 := (blk_thru HZ3.out hgr5 (fun e => by have := hod _ e.symm; omega) (by exact below_new (below_drawn (Below.refl _ _)) _)).kept (grown_set V5 ⟨g, 18, none⟩ (.slice av nv cv)) (by simp; omega)
    have hL : Leaves W (V5.setCell ⟨g, 18, none⟩ (.slice av nv cv)) g dr.ownBlock := (((Leaves.of HG3.out).step (row := none) (grown_below (by exact below_new (below_drawn (Below.refl _ _)) _) none) (fun j h => by cases h)).step hgr5 (fun j h => Or.inr (Or.inl h))).step (grown_set _ ⟨g, 18, none⟩ _) (fun j h => Or.inl (by injection h with h; exact h.symm))
    have hb6 := hp5.set 18 (.slice av nv cv)
    have ho6 := hown5.kept (grown_set V5 ⟨g, 18, none⟩ (.slice av nv cv)) (Or.inr (ownP_apart hown5 (j := 5) (by omega) (hp5.cell 5 rfl) (by simp)))
    have hob6 : (Value.slice av nv cv).ownBlock ≠ some W.heap.size := fun e => by
      rcases hob5 with h | h
      · have := hod _ (h.symm.trans e); omega
      · rw [e] at h; injection h with h; simp at h; omega
    have HZ6 := Lib.hid hz6
    have HL6 := Lib.hid hL
    have HB6 := Lib.hid hb6
    have HO6 := Lib.hid ho6
    have HOB6 := Lib.hid hob6
    clear hz6 hL hb6 ho6 hob6 hp5 hown5 hgr5 hob5 c5 f5 hHeld
    go_wp2_with (first | (refine wpList_store_blk rfl 30 _ _ rfl W.heap.size zeroP (pktList default) rfl rfl HZ6.out (by kernel_rfl) rfl (pktList_one _) ?_; intro V8 hp8 hg8))
    refine bodyPost_ret (results_c1 Tryd.results35 rfl (run_loadVar_mid _ W.heap.size 0 30 (pktList default) _ hp8.range Tryd.underlying30 rfl (by kernel_rfl))) rfl ?_
    exact ⟨rfl, HL6.out.step hg8 (fun j h => Or.inr (Or.inr (by injection h with h; omega))), a', c', _, HB6.out.kept hg8 (by simp; omega), hc1, HA1.out, HO6.out.kept hg8 (Or.inr HOB6.out)⟩
end Go.Proofs.YtdecclklenaoaaaDoor
