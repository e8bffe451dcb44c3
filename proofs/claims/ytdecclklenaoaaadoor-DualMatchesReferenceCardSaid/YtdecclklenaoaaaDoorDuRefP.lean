/- Put of the reference of package dual, at a valid queue. -/
import Derived.Test.YtdecclklenaoaaaDoorDuRefR
import Derived.Test.YtdecclklenaoaaaDoorDuApp
namespace Go.Proofs.YtdecclklenaoaaaDoor
open Go.RowKit

theorem QIn.vok {w : World} {A B room : Int} {ab ao : Nat} {v0 v7 : Int} {a1 : Option Addr} {n1 c1 : Nat} {xs : List Ea.Item} {a2 : Option Addr} {n2 c2 : Nat} {ys : List Ea.Item} (h : QIn w A B room ab ao v0 v7 a1 n1 c1 xs a2 n2 c2 ys) : VOk2 w 6 A B 0 room (some ⟨ab, ao, none⟩) 2 v0 0 0 0 0 0 0 v7 :=
  ⟨rfl, rfl, rfl, rfl, rfl, rfl, rfl, rfl, rfl, ab, ao, a1, n1, c1, xs, a2, n2, c2, ys, rfl, h⟩
theorem QIn.ls6 {w : World} {A B room : Int} {ab ao : Nat} {v0 v7 : Int} {a1 : Option Addr} {n1 c1 : Nat} {xs : List Ea.Item} {a2 : Option Addr} {n2 c2 : Nat} {ys : List Ea.Item} (h : QIn w A B room ab ao v0 v7 a1 n1 c1 xs a2 n2 c2 ys) : RdLs6 w (some ⟨ab, ao, none⟩) 2 := by
  have l1 := h.r1.1
  have l2 := h.r2.1
  have hs := h.ok.short
  refine ⟨fun i hi => ?_, fun i ad a n c hi e hc => ?_⟩
  · rcases (by omega : i = 0 ∨ i = 1) with rfl | rfl
    · exact ⟨_, a1, n1, c1, xs, rfl, by rw [ad_add_zero]; exact h.h1, h.r1, by omega⟩
    · exact ⟨_, a2, n2, c2, ys, rfl, by simpa [Addr.add] using h.h2, h.r2, by omega⟩
  · injection e with e
    subst e
    rcases (by omega : i = 0 ∨ i = 1) with rfl | rfl
    · rw [ad_add_zero] at hc
      have g := h.h1.symm.trans hc
      injection g with g
      injection g with g1 g2 g3
      omega
    · have hc' : w.cell? ⟨ab, ao + 1, none⟩ = some (.slice a n c) := by simpa [Addr.add] using hc
      have g := h.h2.symm.trans hc'
      injection g with g
      injection g with g1 g2 g3
      omega
theorem wpList_add_own {ops : Array Oper} {rest : List Oper} {o : Oper} {a : Act} {w : World} {Q : Exit → Act → World → Prop} {la : Option Addr} {n c base : Nat} {xs : List Ea.Item} (hgd : o.guard = none) (s x : Operand) (ho : o.op = .call { callee := .builtin .append, args := #[s, x], argTypes := #[49, 49] })
    (hs : a.eval s = .slice la n c) (hk : OwnL w base la n c xs) (hbase : base ≤ w.heap.size) (b of : Nat) (it : Ea.Item) (hx : a.eval x = .slice (some ⟨b, of, none⟩) 1 1) (hr : w.rangeAt b of (itemList it)) (hn : n ≤ 600)
    (h : ∀ g' c' row V, OwnL V base (some ⟨g', 0, none⟩) (n + 1) c' (xs ++ [it]) → w.grownBy V row → (∀ k, row = some k → base ≤ k ∧ 0 < n ∧ la = some ⟨k, 0, none⟩) → wpList Tryd.prog ops Q rest (a.put o.dst (.slice (some ⟨g', 0, none⟩) (n + 1) c')) V) : wpList Tryd.prog ops Q (o :: rest) a w :=
  wpList_plain hgd fun _ hK => wp_add_item s x ho hs hk hbase b of it hx hr hn fun g' c' row V h1 h2 h3 => hK _ _ (h g' c' row V (Or.inr ⟨by omega, h1⟩) h2 (fun k e => ⟨hk.row_low h3 k e, h3 k e⟩))
/-- What Put of the reference leaves. -/
def RPutR (w : World) (A B room v0 now : Int) (s : Nat) (xs ys : List Ea.Item) (drops : List Ea.Pkt) (e : Ending) (V : World) : Prop :=
  ∃ g o lc a1 c1 a2 c2 da dc, e = .returned (.tuple #[.agg (dqList A B room (some ⟨g, o, none⟩) lc v0 now s).toArray, .slice da drops.length dc, .int .i64 0]) ∧ Below w.heap.size w V ∧ QIn V A B room g o v0 now a1 xs.length c1 xs a2 ys.length c2 ys ∧ RdPk V (.slice da drops.length dc) drops
theorem ref_end {w W3 Y Z0 Z : World} {A B room v0 now : Int} {r hd base : Nat} {a1 : Option Addr} {n1 c1 : Nat} {xs : List Ea.Item} {a2 : Option Addr} {n2 c2 : Nat} {ys : List Ea.Item} (hB : Below w.heap.size w W3) (hA : Below W3.heap.size W3 Y) (hg : Y.grownBy Z0 (some r)) (hZ : Below Z0.heap.size Z0 Z) (hr : w.heap.size ≤ r) (hrb : r < base)
    (o1 : OwnL W3 base a1 n1 c1 xs) (o2 : OwnL W3 base a2 n2 c2 ys) (hhd : Blk Y hd [.slice a1 n1 c1, .slice a2 n2 c2]) (hne : r < hd) (hok : Du.Ok A B room v0 now xs ys) : Below w.heap.size w Z ∧ QIn Z A B room hd 0 v0 now a1 n1 c1 xs a2 n2 c2 ys := by
  have b1 : Below w.heap.size w Y := below_on hB hA
  have hz := (hhd.kept hg (fun e => by injection e with e; omega)).below hZ
  have q1 := ((o1.below hA).kept hg (fun ad e hn e2 => by obtain ⟨g, e', h4, h5⟩ := o1.head hn; rw [e] at e'; injection e' with e'; subst e'; injection e2 with e2; simp only at e2; omega)).below hZ
  have q2 := ((o2.below hA).kept hg (fun ad e hn e2 => by obtain ⟨g, e', h4, h5⟩ := o2.head hn; rw [e] at e'; injection e' with e'; subst e'; injection e2 with e2; simp only at e2; omega)).below hZ
  exact ⟨below_on (below_grown b1 hg (fun k hk => by injection hk with hk; omega)) hZ, hz.cell 0 rfl, hz.cell 1 rfl, q1.rd, q2.rd, hok⟩
set_option maxRecDepth 100000 in
set_option maxHeartbeats 4000000 in
theorem rput_full {w : World} {A B room : Int} {ab ao : Nat} {v0 v7 : Int} {a1 : Option Addr} {n1 c1 : Nat} {xs : List Ea.Item} {a2 : Option Addr} {n2 c2 : Nat} {ys : List Ea.Item} (hq : QIn w A B room ab ao v0 v7 a1 n1 c1 xs a2 n2 c2 ys) (lc : Nat) (s : Nat) (p : Ea.Pkt) (hp : p.ok) (now : Int) (h0 : v7 ≤ now) (h1 : now ≤ 10000000) (hf : room ≤ (n1 : Int) + n2) :
    Calls Tryd.prog 13 #[.agg (dqList A B room (some ⟨ab, ao, none⟩) lc v0 v7 s).toArray, pktVal p, .int .i64 now] w (RPutR w A B room v0 now s xs ys [p]) := by
  have HIN := Lib.hid hq
  have HPK := Lib.hid hp
  have HOK := Lib.hid hq.ok
  have hl1 := hq.r1.1
  have hl2 := hq.r2.1
  have hsh := hq.ok.short
  have hrm := hq.ok.r1
  have h00 : 0 ≤ now := by have := hq.ok.t0; omega
  have hlen : (n1 : Int) + n2 ≤ room := by rw [← hl1, ← hl2]; exact hq.ok.len
  have hW : IntKind.i64.wrap ((n1 : Int) + (n2 : Int)) = (n1 : Int) + (n2 : Int) := by rw [IntKind.wrap_i64]; omega
  clear hq hp
  go_enter Tryd.func13, Tryd.ntmps13
  have hbz := below_new (below_new (below_new (Below.refl w.heap.size w) (.cells (dqList A B room (some ⟨ab, ao, none⟩) lc v0 v7 s).toArray 28)) (.cells (pktList p).toArray 30)) (.cells zeroDQ.toArray 28)
  have hp0 : Blk (((w.alloc (.cells (dqList A B room (some ⟨ab, ao, none⟩) lc v0 v7 s).toArray 28)).alloc (.cells (pktList p).toArray 30)).alloc (.cells zeroDQ.toArray 28)) (w.heap.size + 1) (pktList p) := (blk_new_at (w.alloc (.cells (dqList A B room (some ⟨ab, ao, none⟩) lc v0 v7 s).toArray 28)) (pktList p).toArray 30 (by simp)).below (below_new (Below.refl _ _) _)
  go_wp2_with (refine wpList_load_mid rfl 30 _ rfl (w.heap.size + 1) 0 rfl (pktList p) _ hp0.range Tryd.underlying30 rfl (by kernel_rfl) ?_)
  refine (packet_any p _).mono ?_
  rw [show decide p.ok = true from decide_eq_true HPK.out]
  rintro e w1 ⟨rfl, hb1⟩
  have HB1 := Lib.hid (below_on hbz hb1)
  have HQ1 := Lib.hid (((Blk.new w (dqList A B room (some ⟨ab, ao, none⟩) lc v0 v7 s).toArray 28).below (below_new (below_new (Below.refl _ _) (.cells (pktList p).toArray 30)) (.cells zeroDQ.toArray 28))).below hb1)
  have HP1 := Lib.hid (hp0.below hb1)
  have HZ1 := Lib.hid ((blk_new_at ((w.alloc (.cells (dqList A B room (some ⟨ab, ao, none⟩) lc v0 v7 s).toArray 28)).alloc (.cells (pktList p).toArray 30)) zeroDQ.toArray 28 (g := w.heap.size + 1 + 1) (by simp only [World.size_alloc])).below hb1)
  clear hb1 hbz hp0
  go_wp2_with (refine wpList_load_mid rfl 28 _ rfl w.heap.size 0 rfl (dqList A B room (some ⟨ab, ao, none⟩) lc v0 v7 s) _ HQ1.out.range Tryd.underlying28 rfl (by kernel_rfl) ?_)
  refine (rrefused_any 6 A B 0 room (some ⟨ab, ao, none⟩) 2 lc v0 0 0 0 0 0 0 v7 s _ (HIN.out.ls6.below HB1.out) now 0 (Or.inr (Or.inr ⟨rfl, VOk2.onto HB1.out HIN.out.vok, h00, h1, h0⟩))).mono ?_
  rintro e w2 ⟨rfl, hb2⟩
  have HB2 := Lib.hid (below_on HB1.out hb2)
  have HQ2 := Lib.hid (HQ1.out.below hb2)
  have HP2 := Lib.hid (HP1.out.below hb2)
  have HZ2 := Lib.hid (HZ1.out.below hb2)
  have HI2 := Lib.hid (HIN.out.below HB2.out)
  have hz2 := HZ2.out.lt
  have hH5 := fun o => below_cell_of (below_new (Below.refl w2.heap.size w2) o) (HQ2.out.cell 5 rfl)
  have hH1 := fun o => below_cell_of (below_new (Below.refl w2.heap.size w2) o) HI2.out.h1
  clear hb2 HB1 HQ1 HP1 HZ1
  have dl : decide (room ≤ (n1 : Int) + (n2 : Int)) = true := decide_eq_true hf
  go_wp2_with (first | (refine wpList_copy_new rfl _ _ rfl rfl rfl (HI2.out.r1.below (by exact (by repeat (first | exact Below.refl _ _ | refine below_drawnN ?_ _ | refine below_drawn ?_ | refine below_new ?_ _)))) (by omega) ?_; intro a1' d1' V2 hown2 hb2; have hB2 : Below w2.heap.size w2 V2 := below_on (by exact (by repeat (first | exact Below.refl _ _ | refine below_drawnN ?_ _ | refine below_drawn ?_ | refine below_new ?_ _))) hb2; have HI3 := Lib.hid (HI2.out.below hB2); have h5 := fun o => below_cell_of (below_new (Below.refl V2.heap.size V2) o) ((HQ2.out.below hB2).cell 5 rfl); have h2c := fun o => below_cell_of (below_new (Below.refl V2.heap.size V2) o) HI3.out.h2; have HB3 := Lib.hid hB2; have HO1 := Lib.hid (hown2.mono (base' := w.heap.size + 3) (by simp; omega)); have hs2 := hB2.size; clear hb2 hB2 hown2) | (refine wpList_copy_new rfl _ _ rfl rfl rfl (HI3.out.r2.below (by exact (by repeat (first | exact Below.refl _ _ | refine below_drawnN ?_ _ | refine below_drawn ?_ | refine below_new ?_ _)))) (by omega) ?_; intro a2' d2' V3 hown3 hb3; have hB3 : Below V2.heap.size V2 V3 := below_on (by exact (by repeat (first | exact Below.refl _ _ | refine below_drawnN ?_ _ | refine below_drawn ?_ | refine below_new ?_ _))) hb3; have HB4 := Lib.hid (below_on HB3.out hB3); have HO1' := Lib.hid (HO1.out.below hB3); have HO2 := Lib.hid (hown3.mono (base' := V2.heap.size) (by simp)); have l4 := (HQ2.out.below HB4.out).cell 4 rfl; have lq := (HQ2.out.below HB4.out).lt; have p6 : V3.cell? ⟨w.heap.size + 1, 6, none⟩ = some (.bool p.able) := (HP2.out.below HB4.out).cell 6 rfl; have hs3 := hB3.size; have HP3 := Lib.hid (HP2.out.below HB4.out); have HQ3 := Lib.hid (HQ2.out.below HB4.out); have HZ3 := Lib.hid (HZ2.out.below HB4.out); have HBW := Lib.hid (below_on HB2.out HB4.out); clear hb3 hB3 hown3))
  have hvs : w.heap.size + 3 ≤ V3.heap.size := by omega
  clear l4 lq p6
  refine wp_region_held_drew (S := (fun V => V.rangeAt w.heap.size 0 (dqList A B room (some ⟨ab, ao, none⟩) lc v0 v7 s) ∧ V.rangeAt (w.heap.size + 1) 0 (pktList p))) (by kernel_rfl) ?_ (fun hHeld => ?_)
  · exact ⟨(HQ3.out.below (below_drawn (Below.refl _ _))).range, (HP3.out.below (below_drawn (Below.refl _ _))).range⟩
  refine wpAnyH_take (i := 0) (v := (.agg (dqList A B room (some ⟨ab, ao, none⟩) lc v0 v7 s).toArray)) rfl (by kernel_rfl) (by kernel_rfl) (by kernel_rfl) (fun _ _ _ h => h) (yieldsIf_load_mid (by rfl) 28 _ rfl w.heap.size 0 rfl (dqList A B room (some ⟨ab, ao, none⟩) lc v0 v7 s) _ (fun _ h => h.1) Tryd.underlying28 rfl (by kernel_rfl)) hHeld ?_
  try go_simp
  refine wpAnyH_take (i := 6) (v := (.agg (pktList p).toArray)) rfl (by kernel_rfl) (by kernel_rfl) (by kernel_rfl) (fun _ _ _ h => h) (yieldsIf_load_mid (by rfl) 30 _ rfl (w.heap.size + 1) 0 rfl (pktList p) _ (fun _ h => h.2) Tryd.underlying30 rfl (by kernel_rfl)) hHeld ?_
  try go_simp
  refine wpAnyH_take (i := 1) (v := ?_) rfl (by kernel_rfl) (by kernel_rfl) (by kernel_rfl) (fun _ _ _ h => h) (Or.inl ⟨by rfl, ?_⟩) hHeld ?_
  rotate_left
  · intro wS hSw; obtain ⟨hS0, hS1⟩ := hSw; go_simp; try with_reducible rfl
  try go_simp
  refine wpAnyH_take (i := 2) (v := ?_) rfl (by kernel_rfl) (by kernel_rfl) (by kernel_rfl) (fun _ _ _ h => h) (Or.inl ⟨by rfl, ?_⟩) hHeld ?_
  rotate_left
  · intro wS hSw; obtain ⟨hS0, hS1⟩ := hSw; go_simp; try with_reducible rfl
  try go_simp
  refine wpAnyH_take (i := 4) (v := ?_) rfl (by kernel_rfl) (by kernel_rfl) (by kernel_rfl) (fun _ _ _ h => h) (Or.inl ⟨by rfl, ?_⟩) hHeld ?_
  rotate_left
  · intro wS hSw; obtain ⟨hS0, hS1⟩ := hSw; go_simp; try with_reducible rfl
  try go_simp
  refine wpAnyH_ready (rs := [3, 7]) (by kernel_rfl) (by simp) ?_
  refine AllReadyH.cons rfl (fun K hK => ?_) (AllReadyH.cons rfl (fun K hK => ?_) AllReadyH.nil)
  · go_simp
    have hA : Below V3.heap.size V3 (V3.alloc (.cells ([.slice a1' n1 d1', .slice a2' n2 d2'] : List Value).toArray 49)).drew := below_drawn (below_new (Below.refl _ _) _)
    have hhd0 := Blk.new V3 ([.slice a1' n1 d1', .slice a2' n2 d2'] : List Value).toArray 49
    have hhd := hhd0.below (below_drawn (Below.refl _ _))
    obtain ⟨hd, ehd⟩ : ∃ z, V3.heap.size = z := ⟨_, rfl⟩
    rw [ehd] at hhd ⊢
    have lhd : w.heap.size + 2 < hd := by rw [← ehd]; first | omega | (have := hA.size; simp only [World.size_alloc] at this; omega) | (have h8 := hA.size; omega)
    rw [ehd] at hhd0
    clear ehd
    refine hK.out _ _ ?_ (fun hHeld => ?_)
    · exact ⟨rangeAt_below hHeld.1 (below_new (Below.refl _ _) _), rangeAt_below hHeld.2 (below_new (Below.refl _ _) _)⟩
    clear hK K
    try go_simp
    refine wpAnyH_ready (rs := [5, 7]) (by kernel_rfl) (by simp) ?_
    refine AllReadyH.cons rfl (fun K hK => ?_) (AllReadyH.cons rfl (fun K hK => ?_) AllReadyH.nil)
    · go_simp
      refine (with_any 6 A B 0 room (some ⟨ab, ao, none⟩) 2 lc v0 0 0 0 0 0 0 v7 s (some ⟨hd, 0, none⟩) 2 2 now _).mono ?_
      rintro e W5 ⟨rfl, hbc⟩
      have hA := below_on hA hbc
      have hhd := hhd.below hbc
      refine hK.out _ _ ?_ (fun hHeld => ?_)
      · exact ⟨rangeAt_below hHeld.1 hbc, rangeAt_below hHeld.2 hbc⟩
      clear hK K
      try go_simp
      refine wpAnyH_ready (rs := [7, 8]) (by kernel_rfl) (by simp) ?_
      refine AllReadyH.cons rfl (fun K hK => ?_) (AllReadyH.cons rfl (fun K hK => ?_) AllReadyH.nil)
      · go_simp
        have hpk := Blk.new W5 (pktList p).toArray 30
        have hhd := hhd.below (below_new (Below.refl _ _) (.cells (pktList p).toArray 30))
        obtain ⟨pk, epk⟩ : ∃ z, W5.heap.size = z := ⟨_, rfl⟩
        rw [epk] at hpk ⊢
        have lpk : w.heap.size + 2 < pk := by rw [← epk]; first | omega | (have := hA.size; simp only [World.size_alloc] at this; omega) | (have h8 := hA.size; omega)
        have hA := below_new hA (.cells (pktList p).toArray 30)
        refine hK.out _ _ ?_ (fun hHeld => ?_)
        · exact ⟨rangeAt_below hHeld.1 (below_new (Below.refl _ _) _), rangeAt_below hHeld.2 (below_new (Below.refl _ _) _)⟩
        clear hK K
        try go_simp
        refine wpAnyH_ready (rs := [8]) (by kernel_rfl) (by simp) ?_
        refine AllReadyH.cons rfl (fun K hK => ?_) AllReadyH.nil
        refine ready_store_blk (by rfl) _ 28 _ _ rfl (w.heap.size + 1 + 1) zeroDQ (dqList A B room (some ⟨hd, 0, none⟩) 2 v0 now s) rfl rfl (HZ3.out.below hA) (by kernel_rfl) rfl (dqList_one _ _ _ _ _ _ _ _) ?_
        intro V6 hq6 hg6
        have hpk := hpk.kept hg6 (fun e => by injection e with e; omega)
        have hZ := Below.refl V6.heap.size V6
        refine hK.out _ _ ?_ (fun hHeld => ?_)
        · exact ⟨rangeAt_kept hHeld.1 hg6 (fun e => by injection e with e; omega), rangeAt_kept hHeld.2 hg6 (fun e => by injection e with e; omega)⟩
        clear hK K
        try go_simp
        refine wpAnyH_take (i := 9) (v := ?_) rfl (by kernel_rfl) (by kernel_rfl) (by kernel_rfl) (fun _ _ _ h => h) (Or.inl ⟨by rfl, ?_⟩) hHeld ?_
        rotate_left
        · intro wS hSw; obtain ⟨hS0, hS1⟩ := hSw; go_simp; try with_reducible rfl
        try go_simp
        refine wpAnyH_take (i := 10) (v := ?_) rfl (by kernel_rfl) (by kernel_rfl) (by kernel_rfl) (fun _ _ _ h => h) (Or.inl ⟨by rfl, ?_⟩) hHeld ?_
        rotate_left
        · intro wS hSw; obtain ⟨hS0, hS1⟩ := hSw; go_simp; try with_reducible rfl
        try go_simp
        refine wpAnyH_done (by kernel_rfl) ?_ _
        go_wp2
        obtain ⟨hB, hQ⟩ := ref_end (A := A) (B := B) (room := room) (v0 := v0) (now := now) HBW.out hA hg6 hZ (by omega) (by omega) HO1'.out (HO2.out.mono (base' := w.heap.size + 3) (by omega)) hhd (by omega) (HOK.out.move h0 h1 HOK.out.m0 HOK.out.m1 (Or.inl rfl) (Or.inl rfl))
        have hq7 := hq6.below hZ
        refine bodyPost_ret (results_c11 Tryd.results13 rfl (run_loadVar_mid _ (w.heap.size + 1 + 1) 0 28 (dqList A B room (some ⟨hd, 0, none⟩) 2 v0 now s) _ hq7.range Tryd.underlying28 rfl (by kernel_rfl))) rfl ?_
        refine ⟨hd, 0, 2, a1', d1', a2', d2', some ⟨pk, 0, none⟩, 1, rfl, hB, by rw [hl1, hl2]; exact hQ, some ⟨pk, 0, none⟩, 1, rfl, fun i hi => ⟨_, 0, rfl, ?_⟩⟩
        obtain rfl : i = 0 := by simp at hi; omega
        exact hpk.range
      · refine ready_store_blk (by rfl) _ 28 _ _ rfl (w.heap.size + 1 + 1) zeroDQ (dqList A B room (some ⟨hd, 0, none⟩) 2 v0 now s) rfl rfl (HZ3.out.below hA) (by kernel_rfl) rfl (dqList_one _ _ _ _ _ _ _ _) ?_
        intro V6 hq6 hg6
        refine hK.out _ _ ?_ (fun hHeld => ?_)
        · exact ⟨rangeAt_kept hHeld.1 hg6 (fun e => by injection e with e; omega), rangeAt_kept hHeld.2 hg6 (fun e => by injection e with e; omega)⟩
        clear hK K
        try go_simp
        refine wpAnyH_ready (rs := [7]) (by kernel_rfl) (by simp) ?_
        refine AllReadyH.cons rfl (fun K hK => ?_) AllReadyH.nil
        go_simp
        have hZ := below_new (Below.refl V6.heap.size V6) (.cells (pktList p).toArray 30)
        have hpk := Blk.new V6 (pktList p).toArray 30
        obtain ⟨pk, epk⟩ : ∃ z, V6.heap.size = z := ⟨_, rfl⟩
        rw [epk] at hpk ⊢
        refine hK.out _ _ ?_ (fun hHeld => ?_)
        · exact ⟨rangeAt_below hHeld.1 (below_new (Below.refl _ _) _), rangeAt_below hHeld.2 (below_new (Below.refl _ _) _)⟩
        clear hK K
        try go_simp
        refine wpAnyH_take (i := 9) (v := ?_) rfl (by kernel_rfl) (by kernel_rfl) (by kernel_rfl) (fun _ _ _ h => h) (Or.inl ⟨by rfl, ?_⟩) hHeld ?_
        rotate_left
        · intro wS hSw; obtain ⟨hS0, hS1⟩ := hSw; go_simp; try with_reducible rfl
        try go_simp
        refine wpAnyH_take (i := 10) (v := ?_) rfl (by kernel_rfl) (by kernel_rfl) (by kernel_rfl) (fun _ _ _ h => h) (Or.inl ⟨by rfl, ?_⟩) hHeld ?_
        rotate_left
        · intro wS hSw; obtain ⟨hS0, hS1⟩ := hSw; go_simp; try with_reducible rfl
        try go_simp
        refine wpAnyH_done (by kernel_rfl) ?_ _
        go_wp2
        obtain ⟨hB, hQ⟩ := ref_end (A := A) (B := B) (room := room) (v0 := v0) (now := now) HBW.out hA hg6 hZ (by omega) (by omega) HO1'.out (HO2.out.mono (base' := w.heap.size + 3) (by omega)) hhd (by omega) (HOK.out.move h0 h1 HOK.out.m0 HOK.out.m1 (Or.inl rfl) (Or.inl rfl))
        have hq7 := hq6.below hZ
        refine bodyPost_ret (results_c11 Tryd.results13 rfl (run_loadVar_mid _ (w.heap.size + 1 + 1) 0 28 (dqList A B room (some ⟨hd, 0, none⟩) 2 v0 now s) _ hq7.range Tryd.underlying28 rfl (by kernel_rfl))) rfl ?_
        refine ⟨hd, 0, 2, a1', d1', a2', d2', some ⟨pk, 0, none⟩, 1, rfl, hB, by rw [hl1, hl2]; exact hQ, some ⟨pk, 0, none⟩, 1, rfl, fun i hi => ⟨_, 0, rfl, ?_⟩⟩
        obtain rfl : i = 0 := by simp at hi; omega
        exact hpk.range
    · go_simp
      have hA : Below V3.heap.size V3 ((V3.alloc (.cells ([.slice a1' n1 d1', .slice a2' n2 d2'] : List Value).toArray 49)).alloc (.cells (pktList p).toArray 30)).drew := below_drawn (below_new (below_new (Below.refl _ _) _) _)
      have hpk := (blk_new_at (V3.alloc (.cells ([.slice a1' n1 d1', .slice a2' n2 d2'] : List Value).toArray 49)) (pktList p).toArray 30 (g := V3.heap.size + 1) (by simp)).below (below_drawn (Below.refl _ _))
      have hhd : Blk ((V3.alloc (.cells ([.slice a1' n1 d1', .slice a2' n2 d2'] : List Value).toArray 49)).alloc (.cells (pktList p).toArray 30)).drew hd ([.slice a1' n1 d1', .slice a2' n2 d2'] : List Value) := hhd0.below (below_drawn (below_new (Below.refl _ _) _))
      obtain ⟨pk, epk⟩ : ∃ z, V3.heap.size + 1 = z := ⟨_, rfl⟩
      rw [epk] at hpk ⊢
      have lpk : w.heap.size + 2 < pk := by rw [← epk]; first | omega | (have := hA.size; simp only [World.size_alloc] at this; omega) | (have h8 := hA.size; omega)
      refine hK.out _ _ ?_ (fun hHeld => ?_)
      · exact ⟨rangeAt_below hHeld.1 (below_new (Below.refl _ _) _), rangeAt_below hHeld.2 (below_new (Below.refl _ _) _)⟩
      clear hK K
      try go_simp
      refine wpAnyH_ready (rs := [5]) (by kernel_rfl) (by simp) ?_
      refine AllReadyH.cons rfl (fun K hK => ?_) AllReadyH.nil
      go_simp
      refine (with_any 6 A B 0 room (some ⟨ab, ao, none⟩) 2 lc v0 0 0 0 0 0 0 v7 s (some ⟨hd, 0, none⟩) 2 2 now _).mono ?_
      rintro e W5 ⟨rfl, hbc⟩
      have hA := below_on hA hbc
      have hhd := hhd.below hbc
      have hpk := hpk.below hbc
      refine hK.out _ _ ?_ (fun hHeld => ?_)
      · exact ⟨rangeAt_below hHeld.1 hbc, rangeAt_below hHeld.2 hbc⟩
      clear hK K
      try go_simp
      refine wpAnyH_ready (rs := [8]) (by kernel_rfl) (by simp) ?_
      refine AllReadyH.cons rfl (fun K hK => ?_) AllReadyH.nil
      refine ready_store_blk (by rfl) _ 28 _ _ rfl (w.heap.size + 1 + 1) zeroDQ (dqList A B room (some ⟨hd, 0, none⟩) 2 v0 now s) rfl rfl (HZ3.out.below hA) (by kernel_rfl) rfl (dqList_one _ _ _ _ _ _ _ _) ?_
      intro V6 hq6 hg6
      have hpk := hpk.kept hg6 (fun e => by injection e with e; omega)
      have hZ := Below.refl V6.heap.size V6
      refine hK.out _ _ ?_ (fun hHeld => ?_)
      · exact ⟨rangeAt_kept hHeld.1 hg6 (fun e => by injection e with e; omega), rangeAt_kept hHeld.2 hg6 (fun e => by injection e with e; omega)⟩
      clear hK K
      try go_simp
      refine wpAnyH_take (i := 9) (v := ?_) rfl (by kernel_rfl) (by kernel_rfl) (by kernel_rfl) (fun _ _ _ h => h) (Or.inl ⟨by rfl, ?_⟩) hHeld ?_
      rotate_left
      · intro wS hSw; obtain ⟨hS0, hS1⟩ := hSw; go_simp; try with_reducible rfl
      try go_simp
      refine wpAnyH_take (i := 10) (v := ?_) rfl (by kernel_rfl) (by kernel_rfl) (by kernel_rfl) (fun _ _ _ h => h) (Or.inl ⟨by rfl, ?_⟩) hHeld ?_
      rotate_left
      · intro wS hSw; obtain ⟨hS0, hS1⟩ := hSw; go_simp; try with_reducible rfl
      try go_simp
      refine wpAnyH_done (by kernel_rfl) ?_ _
      go_wp2
      obtain ⟨hB, hQ⟩ := ref_end (A := A) (B := B) (room := room) (v0 := v0) (now := now) HBW.out hA hg6 hZ (by omega) (by omega) HO1'.out (HO2.out.mono (base' := w.heap.size + 3) (by omega)) hhd (by omega) (HOK.out.move h0 h1 HOK.out.m0 HOK.out.m1 (Or.inl rfl) (Or.inl rfl))
      have hq7 := hq6.below hZ
      refine bodyPost_ret (results_c11 Tryd.results13 rfl (run_loadVar_mid _ (w.heap.size + 1 + 1) 0 28 (dqList A B room (some ⟨hd, 0, none⟩) 2 v0 now s) _ hq7.range Tryd.underlying28 rfl (by kernel_rfl))) rfl ?_
      refine ⟨hd, 0, 2, a1', d1', a2', d2', some ⟨pk, 0, none⟩, 1, rfl, hB, by rw [hl1, hl2]; exact hQ, some ⟨pk, 0, none⟩, 1, rfl, fun i hi => ⟨_, 0, rfl, ?_⟩⟩
      obtain rfl : i = 0 := by simp at hi; omega
      exact hpk.range
  · go_simp
    have hA : Below V3.heap.size V3 (V3.alloc (.cells (pktList p).toArray 30)).drew := below_drawn (below_new (Below.refl _ _) _)
    have hpk0 := Blk.new V3 (pktList p).toArray 30
    have hpk := hpk0.below (below_drawn (Below.refl _ _))
    obtain ⟨pk, epk⟩ : ∃ z, V3.heap.size = z := ⟨_, rfl⟩
    rw [epk] at hpk ⊢
    have lpk : w.heap.size + 2 < pk := by rw [← epk]; first | omega | (have := hA.size; simp only [World.size_alloc] at this; omega) | (have h8 := hA.size; omega)
    rw [epk] at hpk0
    clear epk
    refine hK.out _ _ ?_ (fun hHeld => ?_)
    · exact ⟨rangeAt_below hHeld.1 (below_new (Below.refl _ _) _), rangeAt_below hHeld.2 (below_new (Below.refl _ _) _)⟩
    clear hK K
    try go_simp
    refine wpAnyH_ready (rs := [3]) (by kernel_rfl) (by simp) ?_
    refine AllReadyH.cons rfl (fun K hK => ?_) AllReadyH.nil
    go_simp
    have hA : Below V3.heap.size V3 ((V3.alloc (.cells (pktList p).toArray 30)).alloc (.cells ([.slice a1' n1 d1', .slice a2' n2 d2'] : List Value).toArray 49)).drew := below_drawn (below_new (below_new (Below.refl _ _) _) _)
    have hhd := (blk_new_at (V3.alloc (.cells (pktList p).toArray 30)) ([.slice a1' n1 d1', .slice a2' n2 d2'] : List Value).toArray 49 (g := V3.heap.size + 1) (by simp)).below (below_drawn (Below.refl _ _))
    have hpk : Blk ((V3.alloc (.cells (pktList p).toArray 30)).alloc (.cells ([.slice a1' n1 d1', .slice a2' n2 d2'] : List Value).toArray 49)).drew pk (pktList p) := hpk0.below (below_drawn (below_new (Below.refl _ _) _))
    obtain ⟨hd, ehd⟩ : ∃ z, V3.heap.size + 1 = z := ⟨_, rfl⟩
    rw [ehd] at hhd ⊢
    have lhd : w.heap.size + 2 < hd := by rw [← ehd]; first | omega | (have := hA.size; simp only [World.size_alloc] at this; omega) | (have h8 := hA.size; omega)
    refine hK.out _ _ ?_ (fun hHeld => ?_)
    · exact ⟨rangeAt_below hHeld.1 (below_new (Below.refl _ _) _), rangeAt_below hHeld.2 (below_new (Below.refl _ _) _)⟩
    clear hK K
    try go_simp
    refine wpAnyH_ready (rs := [5]) (by kernel_rfl) (by simp) ?_
    refine AllReadyH.cons rfl (fun K hK => ?_) AllReadyH.nil
    go_simp
    refine (with_any 6 A B 0 room (some ⟨ab, ao, none⟩) 2 lc v0 0 0 0 0 0 0 v7 s (some ⟨hd, 0, none⟩) 2 2 now _).mono ?_
    rintro e W5 ⟨rfl, hbc⟩
    have hA := below_on hA hbc
    have hhd := hhd.below hbc
    have hpk := hpk.below hbc
    refine hK.out _ _ ?_ (fun hHeld => ?_)
    · exact ⟨rangeAt_below hHeld.1 hbc, rangeAt_below hHeld.2 hbc⟩
    clear hK K
    try go_simp
    refine wpAnyH_ready (rs := [8]) (by kernel_rfl) (by simp) ?_
    refine AllReadyH.cons rfl (fun K hK => ?_) AllReadyH.nil
    refine ready_store_blk (by rfl) _ 28 _ _ rfl (w.heap.size + 1 + 1) zeroDQ (dqList A B room (some ⟨hd, 0, none⟩) 2 v0 now s) rfl rfl (HZ3.out.below hA) (by kernel_rfl) rfl (dqList_one _ _ _ _ _ _ _ _) ?_
    intro V6 hq6 hg6
    have hpk := hpk.kept hg6 (fun e => by injection e with e; omega)
    have hZ := Below.refl V6.heap.size V6
    refine hK.out _ _ ?_ (fun hHeld => ?_)
    · exact ⟨rangeAt_kept hHeld.1 hg6 (fun e => by injection e with e; omega), rangeAt_kept hHeld.2 hg6 (fun e => by injection e with e; omega)⟩
    clear hK K
    try go_simp
    refine wpAnyH_take (i := 9) (v := ?_) rfl (by kernel_rfl) (by kernel_rfl) (by kernel_rfl) (fun _ _ _ h => h) (Or.inl ⟨by rfl, ?_⟩) hHeld ?_
    rotate_left
    · intro wS hSw; obtain ⟨hS0, hS1⟩ := hSw; go_simp; try with_reducible rfl
    try go_simp
    refine wpAnyH_take (i := 10) (v := ?_) rfl (by kernel_rfl) (by kernel_rfl) (by kernel_rfl) (fun _ _ _ h => h) (Or.inl ⟨by rfl, ?_⟩) hHeld ?_
    rotate_left
    · intro wS hSw; obtain ⟨hS0, hS1⟩ := hSw; go_simp; try with_reducible rfl
    try go_simp
    refine wpAnyH_done (by kernel_rfl) ?_ _
    go_wp2
    obtain ⟨hB, hQ⟩ := ref_end (A := A) (B := B) (room := room) (v0 := v0) (now := now) HBW.out hA hg6 hZ (by omega) (by omega) HO1'.out (HO2.out.mono (base' := w.heap.size + 3) (by omega)) hhd (by omega) (HOK.out.move h0 h1 HOK.out.m0 HOK.out.m1 (Or.inl rfl) (Or.inl rfl))
    have hq7 := hq6.below hZ
    refine bodyPost_ret (results_c11 Tryd.results13 rfl (run_loadVar_mid _ (w.heap.size + 1 + 1) 0 28 (dqList A B room (some ⟨hd, 0, none⟩) 2 v0 now s) _ hq7.range Tryd.underlying28 rfl (by kernel_rfl))) rfl ?_
    refine ⟨hd, 0, 2, a1', d1', a2', d2', some ⟨pk, 0, none⟩, 1, rfl, hB, by rw [hl1, hl2]; exact hQ, some ⟨pk, 0, none⟩, 1, rfl, fun i hi => ⟨_, 0, rfl, ?_⟩⟩
    obtain rfl : i = 0 := by simp at hi; omega
    exact hpk.range
set_option maxRecDepth 100000 in
set_option maxHeartbeats 4000000 in
theorem rput_able {w : World} {A B room : Int} {ab ao : Nat} {v0 v7 : Int} {a1 : Option Addr} {n1 c1 : Nat} {xs : List Ea.Item} {a2 : Option Addr} {n2 c2 : Nat} {ys : List Ea.Item} (hq : QIn w A B room ab ao v0 v7 a1 n1 c1 xs a2 n2 c2 ys) (lc : Nat) (s : Nat) (p : Ea.Pkt) (hp : p.ok) (now : Int) (h0 : v7 ≤ now) (h1 : now ≤ 10000000) (hf : (n1 : Int) + n2 < room) (hab : p.able = true) :
    Calls Tryd.prog 13 #[.agg (dqList A B room (some ⟨ab, ao, none⟩) lc v0 v7 s).toArray, pktVal p, .int .i64 now] w (RPutR w A B room v0 now s (xs ++ [⟨p, now⟩]) ys []) := by
  have HAB := Lib.hid hab
  clear hab
  have HIN := Lib.hid hq
  have HPK := Lib.hid hp
  have HOK := Lib.hid hq.ok
  have hl1 := hq.r1.1
  have hl2 := hq.r2.1
  have hsh := hq.ok.short
  have hrm := hq.ok.r1
  have h00 : 0 ≤ now := by have := hq.ok.t0; omega
  have hlen : (n1 : Int) + n2 ≤ room := by rw [← hl1, ← hl2]; exact hq.ok.len
  have hW : IntKind.i64.wrap ((n1 : Int) + (n2 : Int)) = (n1 : Int) + (n2 : Int) := by rw [IntKind.wrap_i64]; omega
  clear hq hp
  go_enter Tryd.func13, Tryd.ntmps13
  have hbz := below_new (below_new (below_new (Below.refl w.heap.size w) (.cells (dqList A B room (some ⟨ab, ao, none⟩) lc v0 v7 s).toArray 28)) (.cells (pktList p).toArray 30)) (.cells zeroDQ.toArray 28)
  have hp0 : Blk (((w.alloc (.cells (dqList A B room (some ⟨ab, ao, none⟩) lc v0 v7 s).toArray 28)).alloc (.cells (pktList p).toArray 30)).alloc (.cells zeroDQ.toArray 28)) (w.heap.size + 1) (pktList p) := (blk_new_at (w.alloc (.cells (dqList A B room (some ⟨ab, ao, none⟩) lc v0 v7 s).toArray 28)) (pktList p).toArray 30 (by simp)).below (below_new (Below.refl _ _) _)
  go_wp2_with (refine wpList_load_mid rfl 30 _ rfl (w.heap.size + 1) 0 rfl (pktList p) _ hp0.range Tryd.underlying30 rfl (by kernel_rfl) ?_)
  refine (packet_any p _).mono ?_
  rw [show decide p.ok = true from decide_eq_true HPK.out]
  rintro e w1 ⟨rfl, hb1⟩
  have HB1 := Lib.hid (below_on hbz hb1)
  have HQ1 := Lib.hid (((Blk.new w (dqList A B room (some ⟨ab, ao, none⟩) lc v0 v7 s).toArray 28).below (below_new (below_new (Below.refl _ _) (.cells (pktList p).toArray 30)) (.cells zeroDQ.toArray 28))).below hb1)
  have HP1 := Lib.hid (hp0.below hb1)
  have HZ1 := Lib.hid ((blk_new_at ((w.alloc (.cells (dqList A B room (some ⟨ab, ao, none⟩) lc v0 v7 s).toArray 28)).alloc (.cells (pktList p).toArray 30)) zeroDQ.toArray 28 (g := w.heap.size + 1 + 1) (by simp only [World.size_alloc])).below hb1)
  clear hb1 hbz hp0
  go_wp2_with (refine wpList_load_mid rfl 28 _ rfl w.heap.size 0 rfl (dqList A B room (some ⟨ab, ao, none⟩) lc v0 v7 s) _ HQ1.out.range Tryd.underlying28 rfl (by kernel_rfl) ?_)
  refine (rrefused_any 6 A B 0 room (some ⟨ab, ao, none⟩) 2 lc v0 0 0 0 0 0 0 v7 s _ (HIN.out.ls6.below HB1.out) now 0 (Or.inr (Or.inr ⟨rfl, VOk2.onto HB1.out HIN.out.vok, h00, h1, h0⟩))).mono ?_
  rintro e w2 ⟨rfl, hb2⟩
  have HB2 := Lib.hid (below_on HB1.out hb2)
  have HQ2 := Lib.hid (HQ1.out.below hb2)
  have HP2 := Lib.hid (HP1.out.below hb2)
  have HZ2 := Lib.hid (HZ1.out.below hb2)
  have HI2 := Lib.hid (HIN.out.below HB2.out)
  have hz2 := HZ2.out.lt
  have hH5 := fun o => below_cell_of (below_new (Below.refl w2.heap.size w2) o) (HQ2.out.cell 5 rfl)
  have hH1 := fun o => below_cell_of (below_new (Below.refl w2.heap.size w2) o) HI2.out.h1
  clear hb2 HB1 HQ1 HP1 HZ1
  have dl : decide (room ≤ (n1 : Int) + (n2 : Int)) = false := decide_eq_false (by omega)
  go_wp2_with (first | (refine wpList_copy_new rfl _ _ rfl rfl rfl (HI2.out.r1.below (by exact (by repeat (first | exact Below.refl _ _ | refine below_drawnN ?_ _ | refine below_drawn ?_ | refine below_new ?_ _)))) (by omega) ?_; intro a1' d1' V2 hown2 hb2; have hB2 : Below w2.heap.size w2 V2 := below_on (by exact (by repeat (first | exact Below.refl _ _ | refine below_drawnN ?_ _ | refine below_drawn ?_ | refine below_new ?_ _))) hb2; have HI3 := Lib.hid (HI2.out.below hB2); have h5 := fun o => below_cell_of (below_new (Below.refl V2.heap.size V2) o) ((HQ2.out.below hB2).cell 5 rfl); have h2c := fun o => below_cell_of (below_new (Below.refl V2.heap.size V2) o) HI3.out.h2; have HB3 := Lib.hid hB2; have HO1 := Lib.hid (hown2.mono (base' := w.heap.size + 3) (by simp; omega)); have hs2 := hB2.size; clear hb2 hB2 hown2) | (refine wpList_copy_new rfl _ _ rfl rfl rfl (HI3.out.r2.below (by exact (by repeat (first | exact Below.refl _ _ | refine below_drawnN ?_ _ | refine below_drawn ?_ | refine below_new ?_ _)))) (by omega) ?_; intro a2' d2' V3 hown3 hb3; have hB3 : Below V2.heap.size V2 V3 := below_on (by exact (by repeat (first | exact Below.refl _ _ | refine below_drawnN ?_ _ | refine below_drawn ?_ | refine below_new ?_ _))) hb3; have HB4 := Lib.hid (below_on HB3.out hB3); have HO1' := Lib.hid (HO1.out.below hB3); have HO2 := Lib.hid (hown3.mono (base' := V2.heap.size) (by simp)); have l4 := (HQ2.out.below HB4.out).cell 4 rfl; have lq := (HQ2.out.below HB4.out).lt; have p6 : V3.cell? ⟨w.heap.size + 1, 6, none⟩ = some (.bool true) := ((HP2.out.below HB4.out).cell 6 rfl).trans (by rw [HAB.out]); have hs3 := hB3.size; have HP3 := Lib.hid (HP2.out.below HB4.out); have HQ3 := Lib.hid (HQ2.out.below HB4.out); have HZ3 := Lib.hid (HZ2.out.below HB4.out); have HBW := Lib.hid (below_on HB2.out HB4.out); clear hb3 hB3 hown3) | (refine wpList_load_mid rfl 30 _ rfl (w.heap.size + 1) 0 rfl (pktList p) _ (HP3.out.below (by exact (by repeat (first | exact Below.refl _ _ | refine below_drawnN ?_ _ | refine below_drawn ?_ | refine below_new ?_ _)))).range Tryd.underlying30 rfl (by kernel_rfl) ?_) | (refine wpList_add_own rfl _ _ rfl rfl (HO1'.out.below (by exact (by repeat (first | exact Below.refl _ _ | refine below_drawnN ?_ _ | refine below_drawn ?_ | refine below_new ?_ _)))) (by simp; omega) V3.heap.size 0 ⟨p, now⟩ rfl (by exact (Blk.new V3 (itemList ⟨p, now⟩).toArray 51).range) (by omega) ?_; intro g9 c9 row V4 hown hg hrow; have hrl : ∀ k, row = some k → w.heap.size + 3 ≤ k ∧ k < V2.heap.size := (fun k e => by (obtain ⟨h1, h2, h3⟩ := hrow k e; obtain ⟨g, e1', h4, h5⟩ := HO1.out.head h2; rw [h3] at e1'; injection e1' with e1'; injection e1' with e1'; subst e1'; omega)); have HB9 := Lib.hid (below_grown (below_on HBW.out (by exact below_new (Below.refl _ _) _)) hg (fun k hk => by have := (hrl k hk).1; omega)); have HX4 := Lib.hid (hown); have HY4 := Lib.hid (((HO2.out.below (by exact below_new (Below.refl _ _) _)).kept hg (fun ad e hn e2 => by have h1 := hrl _ e2.symm; obtain ⟨g, e', h4, h5⟩ := HO2.out.head hn; rw [e] at e'; injection e' with e'; subst e'; simp only at h1; omega)).mono (base' := w.heap.size + 3) (by omega)); have HQ4 := Lib.hid ((HQ3.out.below (by exact below_new (Below.refl _ _) _)).kept hg (fun e => by have := (hrl _ e.symm).1; omega)); have HZ4 := Lib.hid ((HZ3.out.below (by exact below_new (Below.refl _ _) _)).kept hg (fun e => by have := (hrl _ e.symm).1; omega)); have hs4 := hg.size; simp only [World.size_alloc] at hs4; clear hown hg hrow hrl HQ3 HZ3) | (refine wpList_load_mid rfl 28 _ rfl w.heap.size 0 rfl (dqList A B room (some ⟨ab, ao, none⟩) lc v0 v7 s) _ (HQ4.out.below (by exact (by repeat (first | exact Below.refl _ _ | refine below_drawnN ?_ _ | refine below_drawn ?_ | refine below_new ?_ _)))).range Tryd.underlying28 rfl (by kernel_rfl) ?_))
  have hhd := Blk.new V4 ([.slice (some ⟨g9, 0, none⟩) (n1 + 1) c9, .slice a2' n2 d2'] : List Value).toArray 49
  refine (with_any 6 A B 0 room (some ⟨ab, ao, none⟩) 2 lc v0 0 0 0 0 0 0 v7 s (some ⟨V4.heap.size, 0, none⟩) 2 2 now _).mono ?_
  rintro e W5 ⟨rfl, hbc⟩
  have hA := below_on (below_new (Below.refl V4.heap.size V4) _) hbc
  have hhd := hhd.below hbc
  obtain ⟨hd, ehd⟩ : ∃ z, V4.heap.size = z := ⟨_, rfl⟩
  rw [ehd] at hhd ⊢
  have lhd : w.heap.size + 2 < hd := by omega
  have HHD := Lib.hid hhd
  have HA := Lib.hid hA
  clear hbc hA hhd
  go_wp2_with (refine wpList_store_blk rfl 28 _ _ rfl (w.heap.size + 1 + 1) zeroDQ (dqList A B room (some ⟨hd, 0, none⟩) 2 v0 now s) rfl rfl (HZ4.out.below HA.out) (by kernel_rfl) rfl (dqList_one _ _ _ _ _ _ _ _) ?_; intro V6 hq6 hg6)
  have hcm := HOK.out.came h0 h1 HPK.out (by rw [hl1, hl2]; exact hf)
  obtain ⟨hB, hQ⟩ := ref_end (A := A) (B := B) (room := room) (v0 := v0) (now := now) HB9.out HA.out hg6 (Below.refl V6.heap.size V6) (by omega) (by omega) HX4.out HY4.out HHD.out (by omega) (hcm.1 HAB.out)
  refine bodyPost_ret (results_c11 Tryd.results13 rfl (run_loadVar_mid _ (w.heap.size + 1 + 1) 0 28 (dqList A B room (some ⟨hd, 0, none⟩) 2 v0 now s) _ hq6.range Tryd.underlying28 rfl (by kernel_rfl))) rfl ?_
  exact ⟨hd, 0, 2, (some ⟨g9, 0, none⟩), c9, a2', d2', none, 0, rfl, hB, by rw [List.length_append, hl1, hl2]; exact hQ, none, 0, rfl, fun i hi => absurd hi (by simp)⟩
set_option maxRecDepth 100000 in
set_option maxHeartbeats 4000000 in
theorem rput_other {w : World} {A B room : Int} {ab ao : Nat} {v0 v7 : Int} {a1 : Option Addr} {n1 c1 : Nat} {xs : List Ea.Item} {a2 : Option Addr} {n2 c2 : Nat} {ys : List Ea.Item} (hq : QIn w A B room ab ao v0 v7 a1 n1 c1 xs a2 n2 c2 ys) (lc : Nat) (s : Nat) (p : Ea.Pkt) (hp : p.ok) (now : Int) (h0 : v7 ≤ now) (h1 : now ≤ 10000000) (hf : (n1 : Int) + n2 < room) (hab : p.able = false) :
    Calls Tryd.prog 13 #[.agg (dqList A B room (some ⟨ab, ao, none⟩) lc v0 v7 s).toArray, pktVal p, .int .i64 now] w (RPutR w A B room v0 now s xs (ys ++ [⟨p, now⟩]) []) := by
  have HAB := Lib.hid hab
  clear hab
  have HIN := Lib.hid hq
  have HPK := Lib.hid hp
  have HOK := Lib.hid hq.ok
  have hl1 := hq.r1.1
  have hl2 := hq.r2.1
  have hsh := hq.ok.short
  have hrm := hq.ok.r1
  have h00 : 0 ≤ now := by have := hq.ok.t0; omega
  have hlen : (n1 : Int) + n2 ≤ room := by rw [← hl1, ← hl2]; exact hq.ok.len
  have hW : IntKind.i64.wrap ((n1 : Int) + (n2 : Int)) = (n1 : Int) + (n2 : Int) := by rw [IntKind.wrap_i64]; omega
  clear hq hp
  go_enter Tryd.func13, Tryd.ntmps13
  have hbz := below_new (below_new (below_new (Below.refl w.heap.size w) (.cells (dqList A B room (some ⟨ab, ao, none⟩) lc v0 v7 s).toArray 28)) (.cells (pktList p).toArray 30)) (.cells zeroDQ.toArray 28)
  have hp0 : Blk (((w.alloc (.cells (dqList A B room (some ⟨ab, ao, none⟩) lc v0 v7 s).toArray 28)).alloc (.cells (pktList p).toArray 30)).alloc (.cells zeroDQ.toArray 28)) (w.heap.size + 1) (pktList p) := (blk_new_at (w.alloc (.cells (dqList A B room (some ⟨ab, ao, none⟩) lc v0 v7 s).toArray 28)) (pktList p).toArray 30 (by simp)).below (below_new (Below.refl _ _) _)
  go_wp2_with (refine wpList_load_mid rfl 30 _ rfl (w.heap.size + 1) 0 rfl (pktList p) _ hp0.range Tryd.underlying30 rfl (by kernel_rfl) ?_)
  refine (packet_any p _).mono ?_
  rw [show decide p.ok = true from decide_eq_true HPK.out]
  rintro e w1 ⟨rfl, hb1⟩
  have HB1 := Lib.hid (below_on hbz hb1)
  have HQ1 := Lib.hid (((Blk.new w (dqList A B room (some ⟨ab, ao, none⟩) lc v0 v7 s).toArray 28).below (below_new (below_new (Below.refl _ _) (.cells (pktList p).toArray 30)) (.cells zeroDQ.toArray 28))).below hb1)
  have HP1 := Lib.hid (hp0.below hb1)
  have HZ1 := Lib.hid ((blk_new_at ((w.alloc (.cells (dqList A B room (some ⟨ab, ao, none⟩) lc v0 v7 s).toArray 28)).alloc (.cells (pktList p).toArray 30)) zeroDQ.toArray 28 (g := w.heap.size + 1 + 1) (by simp only [World.size_alloc])).below hb1)
  clear hb1 hbz hp0
  go_wp2_with (refine wpList_load_mid rfl 28 _ rfl w.heap.size 0 rfl (dqList A B room (some ⟨ab, ao, none⟩) lc v0 v7 s) _ HQ1.out.range Tryd.underlying28 rfl (by kernel_rfl) ?_)
  refine (rrefused_any 6 A B 0 room (some ⟨ab, ao, none⟩) 2 lc v0 0 0 0 0 0 0 v7 s _ (HIN.out.ls6.below HB1.out) now 0 (Or.inr (Or.inr ⟨rfl, VOk2.onto HB1.out HIN.out.vok, h00, h1, h0⟩))).mono ?_
  rintro e w2 ⟨rfl, hb2⟩
  have HB2 := Lib.hid (below_on HB1.out hb2)
  have HQ2 := Lib.hid (HQ1.out.below hb2)
  have HP2 := Lib.hid (HP1.out.below hb2)
  have HZ2 := Lib.hid (HZ1.out.below hb2)
  have HI2 := Lib.hid (HIN.out.below HB2.out)
  have hz2 := HZ2.out.lt
  have hH5 := fun o => below_cell_of (below_new (Below.refl w2.heap.size w2) o) (HQ2.out.cell 5 rfl)
  have hH1 := fun o => below_cell_of (below_new (Below.refl w2.heap.size w2) o) HI2.out.h1
  clear hb2 HB1 HQ1 HP1 HZ1
  have dl : decide (room ≤ (n1 : Int) + (n2 : Int)) = false := decide_eq_false (by omega)
  go_wp2_with (first | (refine wpList_copy_new rfl _ _ rfl rfl rfl (HI2.out.r1.below (by exact (by repeat (first | exact Below.refl _ _ | refine below_drawnN ?_ _ | refine below_drawn ?_ | refine below_new ?_ _)))) (by omega) ?_; intro a1' d1' V2 hown2 hb2; have hB2 : Below w2.heap.size w2 V2 := below_on (by exact (by repeat (first | exact Below.refl _ _ | refine below_drawnN ?_ _ | refine below_drawn ?_ | refine below_new ?_ _))) hb2; have HI3 := Lib.hid (HI2.out.below hB2); have h5 := fun o => below_cell_of (below_new (Below.refl V2.heap.size V2) o) ((HQ2.out.below hB2).cell 5 rfl); have h2c := fun o => below_cell_of (below_new (Below.refl V2.heap.size V2) o) HI3.out.h2; have HB3 := Lib.hid hB2; have HO1 := Lib.hid (hown2.mono (base' := w.heap.size + 3) (by simp; omega)); have hs2 := hB2.size; clear hb2 hB2 hown2) | (refine wpList_copy_new rfl _ _ rfl rfl rfl (HI3.out.r2.below (by exact (by repeat (first | exact Below.refl _ _ | refine below_drawnN ?_ _ | refine below_drawn ?_ | refine below_new ?_ _)))) (by omega) ?_; intro a2' d2' V3 hown3 hb3; have hB3 : Below V2.heap.size V2 V3 := below_on (by exact (by repeat (first | exact Below.refl _ _ | refine below_drawnN ?_ _ | refine below_drawn ?_ | refine below_new ?_ _))) hb3; have HB4 := Lib.hid (below_on HB3.out hB3); have HO1' := Lib.hid (HO1.out.below hB3); have HO2 := Lib.hid (hown3.mono (base' := V2.heap.size) (by simp)); have l4 := (HQ2.out.below HB4.out).cell 4 rfl; have lq := (HQ2.out.below HB4.out).lt; have p6 : V3.cell? ⟨w.heap.size + 1, 6, none⟩ = some (.bool false) := ((HP2.out.below HB4.out).cell 6 rfl).trans (by rw [HAB.out]); have hs3 := hB3.size; have HP3 := Lib.hid (HP2.out.below HB4.out); have HQ3 := Lib.hid (HQ2.out.below HB4.out); have HZ3 := Lib.hid (HZ2.out.below HB4.out); have HBW := Lib.hid (below_on HB2.out HB4.out); clear hb3 hB3 hown3) | (refine wpList_load_mid rfl 30 _ rfl (w.heap.size + 1) 0 rfl (pktList p) _ (HP3.out.below (by exact (by repeat (first | exact Below.refl _ _ | refine below_drawnN ?_ _ | refine below_drawn ?_ | refine below_new ?_ _)))).range Tryd.underlying30 rfl (by kernel_rfl) ?_) | (refine wpList_add_own rfl _ _ rfl rfl (HO2.out.below (by exact (by repeat (first | exact Below.refl _ _ | refine below_drawnN ?_ _ | refine below_drawn ?_ | refine below_new ?_ _)))) (by simp; omega) V3.heap.size 0 ⟨p, now⟩ rfl (by exact (Blk.new V3 (itemList ⟨p, now⟩).toArray 51).range) (by omega) ?_; intro g9 c9 row V4 hown hg hrow; have hrl : ∀ k, row = some k → w.heap.size + 3 ≤ k ∧ V2.heap.size ≤ k := (fun k e => by (obtain ⟨h1, h2, h3⟩ := hrow k e; obtain ⟨g, e1', h4, h5⟩ := HO2.out.head h2; rw [h3] at e1'; injection e1' with e1'; injection e1' with e1'; subst e1'; omega)); have HB9 := Lib.hid (below_grown (below_on HBW.out (by exact below_new (Below.refl _ _) _)) hg (fun k hk => by have := (hrl k hk).1; omega)); have HX4 := Lib.hid (hown.mono (base' := w.heap.size + 3) (by omega)); have HY4 := Lib.hid (((HO1'.out.below (by exact below_new (Below.refl _ _) _)).kept hg (fun ad e hn e2 => by have h1 := hrl _ e2.symm; obtain ⟨g, e', h4, h5⟩ := HO1.out.head hn; rw [e] at e'; injection e' with e'; subst e'; simp only at h1; omega))); have HQ4 := Lib.hid ((HQ3.out.below (by exact below_new (Below.refl _ _) _)).kept hg (fun e => by have := (hrl _ e.symm).1; omega)); have HZ4 := Lib.hid ((HZ3.out.below (by exact below_new (Below.refl _ _) _)).kept hg (fun e => by have := (hrl _ e.symm).1; omega)); have hs4 := hg.size; simp only [World.size_alloc] at hs4; clear hown hg hrow hrl HQ3 HZ3) | (refine wpList_load_mid rfl 28 _ rfl w.heap.size 0 rfl (dqList A B room (some ⟨ab, ao, none⟩) lc v0 v7 s) _ (HQ4.out.below (by exact (by repeat (first | exact Below.refl _ _ | refine below_drawnN ?_ _ | refine below_drawn ?_ | refine below_new ?_ _)))).range Tryd.underlying28 rfl (by kernel_rfl) ?_))
  have hhd := Blk.new V4 ([.slice a1' n1 d1', .slice (some ⟨g9, 0, none⟩) (n2 + 1) c9] : List Value).toArray 49
  refine (with_any 6 A B 0 room (some ⟨ab, ao, none⟩) 2 lc v0 0 0 0 0 0 0 v7 s (some ⟨V4.heap.size, 0, none⟩) 2 2 now _).mono ?_
  rintro e W5 ⟨rfl, hbc⟩
  have hA := below_on (below_new (Below.refl V4.heap.size V4) _) hbc
  have hhd := hhd.below hbc
  obtain ⟨hd, ehd⟩ : ∃ z, V4.heap.size = z := ⟨_, rfl⟩
  rw [ehd] at hhd ⊢
  have lhd : w.heap.size + 2 < hd := by omega
  have HHD := Lib.hid hhd
  have HA := Lib.hid hA
  clear hbc hA hhd
  go_wp2_with (refine wpList_store_blk rfl 28 _ _ rfl (w.heap.size + 1 + 1) zeroDQ (dqList A B room (some ⟨hd, 0, none⟩) 2 v0 now s) rfl rfl (HZ4.out.below HA.out) (by kernel_rfl) rfl (dqList_one _ _ _ _ _ _ _ _) ?_; intro V6 hq6 hg6)
  have hcm := HOK.out.came h0 h1 HPK.out (by rw [hl1, hl2]; exact hf)
  obtain ⟨hB, hQ⟩ := ref_end (A := A) (B := B) (room := room) (v0 := v0) (now := now) HB9.out HA.out hg6 (Below.refl V6.heap.size V6) (by omega) (by omega) HY4.out HX4.out HHD.out (by omega) (hcm.2 HAB.out)
  refine bodyPost_ret (results_c11 Tryd.results13 rfl (run_loadVar_mid _ (w.heap.size + 1 + 1) 0 28 (dqList A B room (some ⟨hd, 0, none⟩) 2 v0 now s) _ hq6.range Tryd.underlying28 rfl (by kernel_rfl))) rfl ?_
  exact ⟨hd, 0, 2, a1', d1', (some ⟨g9, 0, none⟩), c9, none, 0, rfl, hB, by rw [List.length_append, hl1, hl2]; exact hQ, none, 0, rfl, fun i hi => absurd hi (by simp)⟩
theorem rput_r {w : World} {A B room : Int} {ab ao : Nat} {v0 v7 : Int} {a1 : Option Addr} {n1 c1 : Nat} {xs : List Ea.Item} {a2 : Option Addr} {n2 c2 : Nat} {ys : List Ea.Item} (hq : QIn w A B room ab ao v0 v7 a1 n1 c1 xs a2 n2 c2 ys) (lc : Nat) (s : Nat) (p : Ea.Pkt) (hp : p.ok) (now : Int) (h0 : v7 ≤ now) (h1 : now ≤ 10000000)
    {xs' ys' : List Ea.Item} {drops : List Ea.Pkt} (ho : putX room xs ys p now = (xs', ys', drops)) :
    Calls Tryd.prog 13 #[.agg (dqList A B room (some ⟨ab, ao, none⟩) lc v0 v7 s).toArray, pktVal p, .int .i64 now] w (RPutR w A B room v0 now s xs' ys' drops) := by
  have e1 := hq.r1.1
  have e2 := hq.r2.1
  unfold putX at ho
  by_cases hf : room ≤ (xs.length : Int) + ys.length
  · rw [if_pos hf] at ho
    injection ho with f1 ho
    injection ho with f2 f3
    subst f1 f2 f3
    exact rput_full hq lc s p hp now h0 h1 (by rw [← e1, ← e2]; exact hf)
  · rw [if_neg hf] at ho
    cases hab : p.able with
    | true =>
      rw [if_pos hab] at ho
      injection ho with f1 ho
      injection ho with f2 f3
      subst f1 f2 f3
      exact rput_able hq lc s p hp now h0 h1 (by rw [← e1, ← e2]; omega) hab
    | false =>
      rw [if_neg (by simp [hab])] at ho
      injection ho with f1 ho
      injection ho with f2 f3
      subst f1 f2 f3
      exact rput_other hq lc s p hp now h0 h1 (by rw [← e1, ← e2]; omega) hab
end Go.Proofs.YtdecclklenaoaaaDoor
