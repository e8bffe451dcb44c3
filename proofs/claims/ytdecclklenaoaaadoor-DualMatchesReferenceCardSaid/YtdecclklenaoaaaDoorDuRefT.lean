/- Take of the reference of package dual, at a valid queue. -/
import Derived.Test.YtdecclklenaoaaaDoorDuRefS
import Derived.Test.YtdecclklenaoaaaDoorDuBuild
import Derived.Deep.Cut
namespace Go.Proofs.YtdecclklenaoaaaDoor
open Go.RowKit

set_option maxRecDepth 100000 in
set_option maxHeartbeats 40000000 in
theorem rtake_q {w : World} {A B room : Int} {ab ao : Nat} {v0 v7 : Int} {a1 : Option Addr} {n1 c1 : Nat} {xs : List Ea.Item} {a2 : Option Addr} {n2 c2 : Nat} {ys : List Ea.Item} (hq : QIn w A B room ab ao v0 v7 a1 n1 c1 xs a2 n2 c2 ys) (lc : Nat) (s : Nat) (now : Int) (h0 : v7 ≤ now) (h1 : now ≤ 10000000) :
    Calls Tryd.prog 15 #[.agg (dqList A B room (some ⟨ab, ao, none⟩) lc v0 v7 s).toArray, .int .i64 now] w (RTakeQ w A B room now (Du.take A B now xs ys v0 s [])) := by
  have HIN := Lib.hid hq
  have HOK := Lib.hid hq.ok
  have hl1 := hq.r1.1
  have hl2 := hq.r2.1
  have hsh := hq.ok.short
  have h00 : 0 ≤ now := by have := hq.ok.t0; omega
  have hrm := hq.ok.r1
  have hlen : (n1 : Int) + n2 ≤ room := by rw [← hl1, ← hl2]; exact hq.ok.len
  have b0 := hq.ok.b0
  have b1 := hq.ok.b1
  clear hq
  go_enter Tryd.func15, Tryd.ntmps15
  have hbz := below_new (below_new (below_new (Below.refl w.heap.size w) (.cells (dqList A B room (some ⟨ab, ao, none⟩) lc v0 v7 s).toArray 28)) (.cells zeroDQ.toArray 28)) (.cells zeroP.toArray 30)
  have HB1 := Lib.hid hbz
  have HQ1 := Lib.hid ((Blk.new w (dqList A B room (some ⟨ab, ao, none⟩) lc v0 v7 s).toArray 28).below (below_new (below_new (Below.refl _ _) (.cells zeroDQ.toArray 28)) (.cells zeroP.toArray 30)))
  have HZ1 := Lib.hid ((blk_new_at (w.alloc (.cells (dqList A B room (some ⟨ab, ao, none⟩) lc v0 v7 s).toArray 28)) zeroDQ.toArray 28 (g := w.heap.size + 1) (by simp only [World.size_alloc])).below (below_new (Below.refl _ _) (.cells zeroP.toArray 30)))
  have HP1 := Lib.hid (blk_new_at ((w.alloc (.cells (dqList A B room (some ⟨ab, ao, none⟩) lc v0 v7 s).toArray 28)).alloc (.cells zeroDQ.toArray 28)) zeroP.toArray 30 (g := w.heap.size + 1 + 1) (by simp only [World.size_alloc]))
  clear hbz
  go_wp2_with (refine wpList_load_mid rfl 28 _ rfl w.heap.size 0 rfl (dqList A B room (some ⟨ab, ao, none⟩) lc v0 v7 s) _ HQ1.out.range Tryd.underlying28 rfl (by kernel_rfl) ?_)
  refine (rrefused_any 6 A B 0 room (some ⟨ab, ao, none⟩) 2 lc v0 0 0 0 0 0 0 v7 s _ (HIN.out.ls6.below HB1.out) now 0 (Or.inr (Or.inr ⟨rfl, VOk2.onto HB1.out HIN.out.vok, h00, h1, h0⟩))).mono ?_
  rintro e w2 ⟨rfl, hb2⟩
  have HB2 := Lib.hid (below_on HB1.out hb2)
  have HQ2 := Lib.hid (HQ1.out.below hb2)
  have HZ2 := Lib.hid (HZ1.out.below hb2)
  have HP2 := Lib.hid (HP1.out.below hb2)
  have HI2 := Lib.hid (HIN.out.below HB2.out)
  have hz2 := HP2.out.lt
  have hH5 := fun o => below_cell_of (below_new (Below.refl w2.heap.size w2) o) (HQ2.out.cell 5 rfl)
  have hH1 := fun o => below_cell_of (below_new (Below.refl w2.heap.size w2) o) HI2.out.h1
  clear hb2 HB1 HQ1 HP1 HZ1 HIN
  go_wp2_with (first | (refine wpList_copy_new rfl (.tmp 31) (.tmp 35) rfl rfl rfl (HI2.out.r1.below (by exact (by repeat (first | exact Below.refl _ _ | refine below_drawnN ?_ _ | refine below_drawn ?_ | refine below_new ?_ _)))) (by omega) ?_; intro a1' d1' V2 hown2 hb2; have hB2 : Below w2.heap.size w2 V2 := below_on (by exact (by repeat (first | exact Below.refl _ _ | refine below_drawnN ?_ _ | refine below_drawn ?_ | refine below_new ?_ _))) hb2; have HI3 := Lib.hid (HI2.out.below hB2); have h5 := fun o => below_cell_of (below_new (Below.refl V2.heap.size V2) o) ((HQ2.out.below hB2).cell 5 rfl); have h2c := fun o => below_cell_of (below_new (Below.refl V2.heap.size V2) o) HI3.out.h2; have HB3 := Lib.hid hB2; have HO1 := Lib.hid (hown2.mono (base' := w.heap.size + 3) (by simp; omega)); have hs2 := hB2.size; clear hb2 hB2 hown2) | (refine wpList_copy_new rfl (.tmp 37) (.tmp 41) rfl rfl rfl (HI3.out.r2.below (by exact (by repeat (first | exact Below.refl _ _ | refine below_drawnN ?_ _ | refine below_drawn ?_ | refine below_new ?_ _)))) (by omega) ?_; intro a2' d2' V3 hown3 hb3; have hB3 : Below V2.heap.size V2 V3 := below_on (by exact (by repeat (first | exact Below.refl _ _ | refine below_drawnN ?_ _ | refine below_drawn ?_ | refine below_new ?_ _))) hb3; have HB4 := Lib.hid (below_on HB3.out hB3); have HST := Lib.hid (⟨below_on HB2.out HB4.out, HQ2.out.below HB4.out, HZ2.out.below HB4.out, HP2.out.below HB4.out, HO1.out.below hB3, hown3.mono (base' := w.heap.size + 3) (by simp; omega), OwnP.nil _ _⟩ : RSt w V3 A B room ab ao lc v7 a1' n1 d1' xs v0 s a2' n2 d2' ys (.slice none 0 0) []); clear hb3 hB3 hown3 HB4))
  clear HI2 HI3 HQ2 HZ2 HP2 HB2 HB3 HO1 hH5 hH1 h5 h2c hs2 hz2
  have ht0 : v7 ≤ 10000000 := HOK.out.t1
  go_loopw [11, 12] (fun b dr wr => ∃ (row : Int) (s' : Nat) (a3 : Option Addr) (n3 d3 : Nat) (zs : List Ea.Item) (drops : List Ea.Pkt), b = .slice a3 n3 d3 ∧ RSt w wr A B room ab ao lc v7 a1' n1 d1' xs row s' a3 n3 d3 zs dr drops ∧ Du.Ok A B room row v7 xs zs ∧ zs.length + drops.length ≤ 500 ∧ Du.take A B now xs ys v0 s [] = Du.take A B now xs zs row s' drops) (fun b _ _ => lenOf b)
  case atStart => exact ⟨v0, s, a2', n2, d2', ys, [], rfl, HST.out, HOK.out, by simp; omega, rfl⟩
  case round =>
    clear HST HOK hl2 hsh hlen
    obtain ⟨row, s', a3, n3, d3, zs, drops, rfl, hst, hok, hcnt, htk⟩ := hrel
    have hl3 := hst.hl.rd.1
    have HST := Lib.hid hst
    have HOK := Lib.hid hok
    have HTK := Lib.hid htk
    clear hst hok htk
    have zq := HST.out.hp.lt
    have r0 := HOK.out.m0
    have r15 := HOK.out.m1
    have hrw : IntKind.i64.wrap (row + 1) = row + 1 := by rw [IntKind.wrap_i64]; omega
    have hn3 : n3 ≤ 500 := by omega
    obtain ⟨da, dc, rfl⟩ := HST.out.hd.slice
    by_cases hx0 : n1 = 0
    · obtain rfl : xs = [] := List.eq_nil_of_length_eq_zero (by omega)
      subst hx0
      rcases zs with _ | ⟨y, yt⟩
      · obtain rfl : n3 = 0 := by simpa using hl3.symm
        as_aux_lemma =>
          have htk : Du.take A B now [] ys v0 s [] = ⟨[], [], 0, s', none, drops⟩ := HTK.out.trans (by rw [Du.take])
          have HTK := Lib.hid htk
          clear htk
          have c6 := HST.out.hq.cell 6 rfl
          have f6 := HST.out.hq.frozen ⟨w.heap.size, 6, none⟩ rfl
          have HS1 := Lib.hid (HST.out.row 0)
          go_wp2_with (first | (refine wpList_load_mid rfl 28 _ rfl w.heap.size 0 rfl (dqList A B room (some ⟨ab, ao, none⟩) lc 0 v7 s') _ (Blk.below HS1.out.hq (by exact (by repeat (first | exact Below.refl _ _ | refine below_set ?_ (by first | omega | (simp; done) | (simp; omega)) _ | refine below_drawnN ?_ _ | refine below_drawn ?_ | refine below_new ?_ _)))).range Tryd.underlying28 rfl (by kernel_rfl) ?_))
          have hbn : Below (wr.setCell ⟨w.heap.size, 6, none⟩ (.int .i64 0)).heap.size (wr.setCell ⟨w.heap.size, 6, none⟩ (.int .i64 0)) ((wr.setCell ⟨w.heap.size, 6, none⟩ (.int .i64 0)).alloc (.cells ([.slice a1' 0 d1', .slice a3 0 d3] : List Value).toArray 49)) := below_new (Below.refl _ _) _
          have hhd := blk_new_at (wr.setCell ⟨w.heap.size, 6, none⟩ (.int .i64 0)) ([.slice a1' 0 d1', .slice a3 0 d3] : List Value).toArray 49 (g := wr.heap.size) (by simp only [World.size_setCell])
          refine (with_any 6 A B 0 room (some ⟨ab, ao, none⟩) 2 lc 0 0 0 0 0 0 0 v7 s' (some ⟨wr.heap.size, 0, none⟩) 2 2 now _).mono ?_
          rintro e W5 ⟨rfl, hbc⟩
          have HS5 := Lib.hid (HS1.out.below (below_on hbn hbc))
          have hhd := hhd.below hbc
          obtain ⟨hd, ehd⟩ : ∃ z, wr.heap.size = z := ⟨_, rfl⟩
          rw [ehd] at hhd ⊢
          have lhd : w.heap.size + 2 < hd := by omega
          have HHD := Lib.hid hhd
          clear hhd hbn hbc ehd c6 f6
          go_wp2_with (first | (refine wpList_store_blk rfl 28 _ _ rfl (w.heap.size + 1) zeroDQ (dqList A B room (some ⟨hd, 0, none⟩) 2 0 now s') rfl rfl HS5.out.hz (by kernel_rfl) rfl (dqList_one _ _ _ _ _ _ _ _) ?_; intro V6 hq6 hg6; have HP6 := Lib.hid (HS5.out.hp.kept hg6 (fun e => by injection e with e; omega))) | (refine wpList_store_blk rfl 30 _ _ rfl (w.heap.size + 1 + 1) zeroP (pktList default) rfl rfl HP6.out (by kernel_rfl) rfl (pktList_one _) ?_; intro V7 hp7 hg7))
          obtain ⟨hB, hQ, hR⟩ := rt_end (row := 0) HS5.out hg6 hg7 HHD.out lhd (HOK.out.move h0 h1 (by omega) (by omega) (Or.inl rfl) (Or.inl rfl))
          refine bodyPost_ret (results_cc111 Tryd.results15 rfl rfl (run_loadVar_mid _ (w.heap.size + 1) 0 28 (dqList A B room (some ⟨hd, 0, none⟩) 2 0 now s') _ (hq6.kept hg7 (fun e => by injection e with e; omega)).range Tryd.underlying28 rfl (by kernel_rfl)) (run_loadVar_mid _ (w.heap.size + 1 + 1) 0 30 (pktList default) _ hp7.range Tryd.underlying30 rfl (by kernel_rfl))) rfl ?_
          rw [HTK.out]
          exact ⟨hd, 0, 2, a1', d1', a3, d3, da, dc, rfl, hB, hQ, hR⟩
      · rw [List.length_cons] at hl3
        by_cases hdec : Du.press B now (y :: yt) * Du.press B now (y :: yt) / 1000000 ≤ Du.rnd s'
        · skip
          obtain ⟨g, o, rfl, hry⟩ := HST.out.hl.rd.at0
          have hgw : w.heap.size + 3 ≤ g ∧ g < wr.heap.size := by
            obtain ⟨g', e', h4, h5⟩ := HST.out.hl.head (by omega)
            injection e' with e'
            injection e' with e1 e2
            subst e1
            exact ⟨h4, h5⟩
          have dn : decide ((0 : Int) < (n3 : Int)) = true := decide_eq_true (by omega)
          have hsy := (ok_since HOK.out).2 y yt rfl
          have HPM := Lib.hid (press_min (B := B) (now := now) (y := y) (yt := yt))
          obtain ⟨z, hz⟩ : ∃ z, y.since = z := ⟨_, rfl⟩
          have c8 : wr.cell? ⟨g, o + 8, none⟩ = some (.int .i64 z) := hz ▸ hry 8 _ rfl
          rw [hz] at hsy HPM
          have hm := Du.mul_bd b0 b1 (show 0 ≤ now - z by omega) (by omega)
          have e1 : IntKind.i64.wrap (now - z) = now - z := by rw [IntKind.wrap_i64]; omega
          have e2 : IntKind.i64.wrap (B * (now - z)) = B * (now - z) := by
            generalize B * (now - z) = q at hm ⊢
            rw [IntKind.wrap_i64]
            omega
          obtain ⟨k, hk⟩ : ∃ k, Du.press B now (y :: yt) = k := ⟨_, rfl⟩
          rw [hk] at HPM
          have hpm := HPM.out
          have k0 : 0 ≤ k ∧ k ≤ 1000000 := by
            rw [← hpm]
            generalize B * (now - z) = q at hm ⊢
            omega
          have hg8 : some g ≠ (some w.heap.size : Option Nat) := fun e => by injection e with e; omega
          have HRY := Lib.hid hry
          clear hry hz
          rw [hk] at hdec
          have dge : decide (k * k / 1000000 ≤ Du.rnd s') = true := decide_eq_true hdec
          have htk : Du.take A B now [] ys v0 s [] = ⟨[], yt, 0, Rand.nextSeed s', some y.p, drops⟩ := HTK.out.trans (by rw [Du.take, hk, if_neg (by omega)])
          have hrb := fun V => rb_any s' V
          generalize Rand.nextSeed s' = s1 at hrb htk
          have HRB := Lib.hid hrb
          clear hrb
          have HTK := Lib.hid htk
          have hkk : 0 ≤ k * k ∧ k * k ≤ 1000000000000 := by
            refine ⟨Int.mul_nonneg k0.1 k0.1, ?_⟩
            have h1 : k * k ≤ 1000000 * k := Int.mul_le_mul_of_nonneg_right k0.2 k0.1
            omega
          have e3 : IntKind.i64.wrap (k * k) = k * k := by
            generalize k * k = q at hkk ⊢
            rw [IntKind.wrap_i64]
            omega
          obtain ⟨a', ha'⟩ : ∃ a', (if d3 = 1 then some (⟨g, o, none⟩ : Addr) else some ⟨g, o + 9, none⟩) = a' := ⟨_, rfl⟩
          have htl := HST.out.hl.rd.tl HST.out.hl.cap
          rw [ha'] at htl
          have HTL := Lib.hid htl
          have hn1' : (1 : Int) ≤ n3 := by omega
          have hn2' : 1 ≤ n3 := by omega
          have c6 := HST.out.hq.cell 6 rfl
          have HK2 := Lib.hid (HST.out.hq.cell 2 rfl)
          have HC8 := Lib.hid c8
          have HHK := Lib.hid hk
          clear hdec htk c8 hk htl
          go_wp2_with fail
          refine wp_region_held_drew (S := (fun V => V.cell? ⟨w.heap.size, 2, none⟩ = some (.int .i64 B) ∧ V.cell? ⟨g, o + 8, none⟩ = some (.int .i64 z))) (by kernel_rfl) ?_ (fun hHeld => ?_)
          · exact ⟨below_cell_of (below_drawn (Below.refl _ _)) HK2.out, below_cell_of (below_drawn (Below.refl _ _)) HC8.out⟩
          refine wpAnyH_take (i := 0) (v := ?_) rfl (by kernel_rfl) (by kernel_rfl) (by kernel_rfl) (fun _ _ _ h => h) (Or.inl ⟨by rfl, ?_⟩) hHeld ?_
          rotate_left
          · intro wS hSw; obtain ⟨hS0, hS1⟩ := hSw; go_simp; try with_reducible rfl
          try go_simp
          refine wpAnyH_take (i := 1) (v := ?_) rfl (by kernel_rfl) (by kernel_rfl) (by kernel_rfl) (fun _ _ _ h => h) (Or.inl ⟨by rfl, ?_⟩) hHeld ?_
          rotate_left
          · intro wS hSw; obtain ⟨hS0, hS1⟩ := hSw; go_simp; try with_reducible rfl
          try go_simp
          refine wpAnyH_take (i := 2) (v := ?_) rfl (by kernel_rfl) (by kernel_rfl) (by kernel_rfl) (fun _ _ _ h => h) (Or.inl ⟨by rfl, ?_⟩) hHeld ?_
          rotate_left
          · intro wS hSw; obtain ⟨hS0, hS1⟩ := hSw; go_simp; try with_reducible rfl
          try go_simp
          refine wpAnyH_take (i := 3) (v := ?_) rfl (by kernel_rfl) (by kernel_rfl) (by kernel_rfl) (fun _ _ _ h => h) (Or.inl ⟨by rfl, ?_⟩) hHeld ?_
          rotate_left
          · intro wS hSw; obtain ⟨hS0, hS1⟩ := hSw; go_simp; try with_reducible rfl
          try go_simp
          refine wpAnyH_take (i := 4) (v := ?_) rfl (by kernel_rfl) (by kernel_rfl) (by kernel_rfl) (fun _ _ _ h => h) (Or.inl ⟨by rfl, ?_⟩) hHeld ?_
          rotate_left
          · intro wS hSw; obtain ⟨hS0, hS1⟩ := hSw; go_simp; try with_reducible rfl
          try go_simp
          refine wpAnyH_take (i := 5) (v := ?_) rfl (by kernel_rfl) (by kernel_rfl) (by kernel_rfl) (fun _ _ _ h => h) (Or.inl ⟨by rfl, ?_⟩) hHeld ?_
          rotate_left
          · intro wS hSw; obtain ⟨hS0, hS1⟩ := hSw; go_simp; try with_reducible rfl
          try go_simp
          refine wpAnyH_take (i := 6) (v := ?_) rfl (by kernel_rfl) (by kernel_rfl) (by kernel_rfl) (fun _ _ _ h => h) (Or.inl ⟨by rfl, ?_⟩) hHeld ?_
          rotate_left
          · intro wS hSw; obtain ⟨hS0, hS1⟩ := hSw; go_simp; try with_reducible rfl
          try go_simp
          refine wpAnyH_take (i := 7) (v := ?_) rfl (by kernel_rfl) (by kernel_rfl) (by kernel_rfl) (fun _ _ _ h => h) (Or.inl ⟨by rfl, ?_⟩) hHeld ?_
          rotate_left
          · intro wS hSw; obtain ⟨hS0, hS1⟩ := hSw; go_simp; try with_reducible rfl
          try go_simp
          refine wpAnyH_take (i := 8) (v := ?_) rfl (by kernel_rfl) (by kernel_rfl) (by kernel_rfl) (fun _ _ _ h => h) (Or.inl ⟨by rfl, ?_⟩) hHeld ?_
          rotate_left
          · intro wS hSw; obtain ⟨hS0, hS1⟩ := hSw; go_simp; try with_reducible rfl
          try go_simp
          refine wpAnyH_take (i := 9) (v := ?_) rfl (by kernel_rfl) (by kernel_rfl) (by kernel_rfl) (fun _ _ _ h => h) (Or.inl ⟨by rfl, ?_⟩) hHeld ?_
          rotate_left
          · intro wS hSw; obtain ⟨hS0, hS1⟩ := hSw; go_simp; try with_reducible rfl
          try go_simp
          refine wpAnyH_take (i := 10) (v := ?_) rfl (by kernel_rfl) (by kernel_rfl) (by kernel_rfl) (fun _ _ _ h => h) (Or.inl ⟨by rfl, ?_⟩) hHeld ?_
          rotate_left
          · intro wS hSw; obtain ⟨hS0, hS1⟩ := hSw; go_simp; try with_reducible rfl
          try go_simp
          refine wpAnyH_take (i := 11) (v := ?_) rfl (by kernel_rfl) (by kernel_rfl) (by kernel_rfl) (fun _ _ _ h => h) (Or.inl ⟨by rfl, ?_⟩) hHeld ?_
          rotate_left
          · intro wS hSw; obtain ⟨hS0, hS1⟩ := hSw; go_simp; try with_reducible rfl
          try go_simp
          refine wpAnyH_done (by kernel_rfl) ?_ _
          obtain ⟨V0, hV0⟩ : ∃ V0, wr.drew = V0 := ⟨_, rfl⟩
          rw [hV0]
          have hB0 : Below wr.heap.size wr V0 := hV0 ▸ below_drawn (Below.refl _ _)
          have HST0 := Lib.hid (HST.out.below hB0)
          have HRY0 := Lib.hid (rangeAt_below HRY.out hB0)
          have HTL0 := Lib.hid (HTL.out.below hB0)
          have c14 := HST0.out.hq.cell 14 rfl
          have zq0 := HST0.out.hp.lt
          clear hV0 hB0 HST HRY HTL HK2 HC8
          go_wp2_with fail
          refine (HRB.out _).mono ?_
          rintro e w4 ⟨rfl, rfl⟩
          go_wp2_with (first | (refine wpList_load_mid rfl 30 (.tmp 77) rfl g o (by first | rfl | exact congrArg (fun x => Value.pointer (some x)) (Addr.add_mid _ _ _)) (pktList y.p) _ (item_pkt (rangeAt_below HRY0.out (by exact (by repeat (first | exact Below.refl _ _ | refine below_set ?_ (by first | omega | (simp; done) | (simp; omega)) _ | refine below_drawnN ?_ _ | refine below_drawn ?_ | refine below_new ?_ _))))) Tryd.underlying30 rfl (by kernel_rfl) ?_) | (refine wpList_store_at rfl 30 (.tmp 17) (.tmp 78) rfl _ _ (pktList y.p).toArray rfl (by simp only) rfl (by kernel_rfl) rfl rfl ?_) | (refine wpList_copy_new rfl (.tmp 79) (.tmp 81) rfl rfl rfl (HTL0.out.below (by exact (by repeat (first | exact Below.refl _ _ | refine below_set ?_ (by first | omega | (simp; done) | (simp; omega)) _ | refine below_drawnN ?_ _ | refine below_drawn ?_ | refine below_new ?_ _)))) (by omega) ?_; intro a4 d4 V2 hown hb2; have hB2 : Below V0.heap.size V0 V2 := below_on (by exact (by repeat (first | exact Below.refl _ _ | refine below_set ?_ (by first | omega | (simp; done) | (simp; omega)) _ | refine below_drawnN ?_ _ | refine below_drawn ?_ | refine below_new ?_ _))) hb2; have HS2 := Lib.hid ((HST0.out.below hB2).list2 (hown.mono (base' := w.heap.size + 3) (by simp; omega))); have HS3 := Lib.hid ((HS2.out.row 0).seed s1); have hPK : Blk V2 V0.heap.size (pktList y.p) := Blk.below (Blk.below (Blk.new _ (pktList y.p).toArray 30) (below_new (Below.refl _ _) _)) hb2; have HPK := Lib.hid hPK; have HPK3 := Lib.hid ((hPK.kept (grown_set V2 ⟨w.heap.size, 6, none⟩ (.int .i64 0)) (fun e => by injection e with e; simp only at e; omega)).kept (grown_set _ ⟨w.heap.size, 14, none⟩ (.int .u64 (s1 : Int))) (fun e => by injection e with e; simp only at e; omega)); have c6' := HS2.out.hq.cell 6 rfl; have c14' := HS2.out.hq.cell 14 rfl; have f6 := HS2.out.hq.frozen ⟨w.heap.size, 6, none⟩ rfl; have f14 := HS2.out.hq.frozen ⟨w.heap.size, 14, none⟩ rfl; have hs2 := hB2.size; clear hB2 hb2 hown hPK))
          have hs4 := HS3.out
          have hk4 := HPK3.out
          obtain ⟨V4, hV4⟩ : ∃ V4, (V2.setCell ⟨w.heap.size, 6, none⟩ (.int .i64 0)).setCell ⟨w.heap.size, 14, none⟩ (.int .u64 (s1 : Int)) = V4 := ⟨_, rfl⟩
          rw [hV4] at hs4 hk4 ⊢
          have HS4 := Lib.hid hs4
          have HK4 := Lib.hid hk4
          have hz4 := hs4.hp.lt
          clear hs4 hk4 hV4
          refine wp_region_held_drew (S := (fun V => V.rangeAt w.heap.size 0 (dqList A B room (some ⟨ab, ao, none⟩) lc 0 v7 s1) ∧ V.rangeAt (V0.heap.size) 0 (pktList y.p))) (by kernel_rfl) ?_ (fun hHeld => ?_)
          · exact ⟨(HS4.out.hq.below (below_drawn (Below.refl _ _))).range, (HK4.out.below (below_drawn (Below.refl _ _))).range⟩
          refine wpAnyH_take (i := 0) (v := (.agg (dqList A B room (some ⟨ab, ao, none⟩) lc 0 v7 s1).toArray)) rfl (by kernel_rfl) (by kernel_rfl) (by kernel_rfl) (fun _ _ _ h => h) (yieldsIf_load_mid (by rfl) 28 _ rfl w.heap.size 0 rfl (dqList A B room (some ⟨ab, ao, none⟩) lc 0 v7 s1) _ (fun _ h => h.1) Tryd.underlying28 rfl (by kernel_rfl)) hHeld ?_
          try go_simp
          refine wpAnyH_take (i := 6) (v := (.agg (pktList y.p).toArray)) rfl (by kernel_rfl) (by kernel_rfl) (by kernel_rfl) (fun _ _ _ h => h) (yieldsIf_load_mid (by rfl) 30 _ rfl (V0.heap.size) 0 rfl (pktList y.p) _ (fun _ h => h.2) Tryd.underlying30 rfl (by kernel_rfl)) hHeld ?_
          try go_simp
          refine wpAnyH_take (i := 1) (v := ?_) rfl (by kernel_rfl) (by kernel_rfl) (by kernel_rfl) (fun _ _ _ h => h) (Or.inl ⟨by rfl, ?_⟩) hHeld ?_
          rotate_left
          · intro wS hSw; obtain ⟨hS0, hS1⟩ := hSw; go_simp; try with_reducible rfl
          try go_simp
          refine wpAnyH_take (i := 2) (v := ?_) rfl (by kernel_rfl) (by kernel_rfl) (by kernel_rfl) (fun _ _ _ h => h) (Or.inl ⟨by rfl, ?_⟩) hHeld ?_
          rotate_left
          · intro wS hSw; obtain ⟨hS0, hS1⟩ := hSw; go_simp; try with_reducible rfl
          try go_simp
          refine wpAnyH_take (i := 4) (v := ?_) rfl (by kernel_rfl) (by kernel_rfl) (by kernel_rfl) (fun _ _ _ h => h) (Or.inl ⟨by rfl, ?_⟩) hHeld ?_
          rotate_left
          · intro wS hSw; obtain ⟨hS0, hS1⟩ := hSw; go_simp; try with_reducible rfl
          try go_simp
          refine wpAnyH_take (i := 7) (v := ?_) rfl (by kernel_rfl) (by kernel_rfl) (by kernel_rfl) (fun _ _ _ h => h) (Or.inl ⟨by rfl, ?_⟩) hHeld ?_
          rotate_left
          · intro wS hSw; obtain ⟨hS0, hS1⟩ := hSw; go_simp; try with_reducible rfl
          try go_simp
          refine wpAnyH_ready (rs := [3]) (by kernel_rfl) (by simp) ?_
          refine AllReadyH.cons rfl (fun K hK => ?_) AllReadyH.nil
          go_simp
          have hA : Below V4.heap.size V4 (V4.alloc (.cells ([(.slice a1' 0 d1'), (.slice a4 (n3 - 1) d4)] : List Value).toArray 49)).drew := below_drawn (below_new (Below.refl _ _) _)
          have hhd := (Blk.new V4 ([(.slice a1' 0 d1'), (.slice a4 (n3 - 1) d4)] : List Value).toArray 49).below (below_drawn (Below.refl _ _))
          obtain ⟨hd, ehd⟩ : ∃ z, V4.heap.size = z := ⟨_, rfl⟩
          rw [ehd] at hhd ⊢
          have lhd : w.heap.size + 2 < hd := by omega
          clear ehd
          refine hK.out _ _ ?_ (fun hHeld => ?_)
          · exact ⟨rangeAt_below hHeld.1 (below_new (Below.refl _ _) _), rangeAt_below hHeld.2 (below_new (Below.refl _ _) _)⟩
          clear hK K
          try go_simp
          refine wpAnyH_ready (rs := [5]) (by kernel_rfl) (by simp) ?_
          refine AllReadyH.cons rfl (fun K hK => ?_) AllReadyH.nil
          go_simp
          refine (with_any 6 A B 0 room (some ⟨ab, ao, none⟩) 2 lc 0 0 0 0 0 0 0 v7 s1 (some ⟨hd, 0, none⟩) 2 2 now _).mono ?_
          rintro e W5 ⟨rfl, hbc⟩
          have hA := below_on hA hbc
          have hhd := hhd.below hbc
          have hs5 := HS4.out.below hA
          refine hK.out _ _ ?_ (fun hHeld => ?_)
          · exact ⟨rangeAt_below hHeld.1 hbc, rangeAt_below hHeld.2 hbc⟩
          clear hK K
          try go_simp
          refine wpAnyH_ready (rs := [8]) (by kernel_rfl) (by simp) ?_
          refine AllReadyH.cons rfl (fun K hK => ?_) AllReadyH.nil
          refine ready_store_blk (by rfl) _ 28 _ _ rfl (w.heap.size + 1) zeroDQ (dqList A B room (some ⟨hd, 0, none⟩) 2 0 now s1) rfl rfl hs5.hz (by kernel_rfl) rfl (dqList_one _ _ _ _ _ _ _ _) ?_
          intro V6 hq6 hg6
          have hp6 := hs5.hp.kept hg6 (fun e => by injection e with e; omega)
          refine hK.out _ _ ?_ (fun hHeld => ?_)
          · exact ⟨rangeAt_kept hHeld.1 hg6 (fun e => by injection e with e; omega), rangeAt_kept hHeld.2 hg6 (fun e => by injection e with e; omega)⟩
          clear hK K
          try go_simp
          refine wpAnyH_ready (rs := [9]) (by kernel_rfl) (by simp) ?_
          refine AllReadyH.cons rfl (fun K hK => ?_) AllReadyH.nil
          refine ready_store_blk (by rfl) _ 30 _ _ rfl (w.heap.size + 1 + 1) zeroP (pktList y.p) rfl rfl hp6 (by kernel_rfl) rfl (pktList_one _) ?_
          intro V7 hp7 hg7
          refine hK.out _ _ ?_ (fun hHeld => ?_)
          · exact ⟨rangeAt_kept hHeld.1 hg7 (fun e => by injection e with e; omega), rangeAt_kept hHeld.2 hg7 (fun e => by injection e with e; omega)⟩
          clear hK K
          try go_simp
          refine wpAnyH_take (i := 10) (v := ?_) rfl (by kernel_rfl) (by kernel_rfl) (by kernel_rfl) (fun _ _ _ h => h) (Or.inl ⟨by rfl, ?_⟩) hHeld ?_
          rotate_left
          · intro wS hSw; obtain ⟨hS0, hS1⟩ := hSw; go_simp; try with_reducible rfl
          try go_simp
          refine wpAnyH_take (i := 11) (v := ?_) rfl (by kernel_rfl) (by kernel_rfl) (by kernel_rfl) (fun _ _ _ h => h) (Or.inl ⟨by rfl, ?_⟩) hHeld ?_
          rotate_left
          · intro wS hSw; obtain ⟨hS0, hS1⟩ := hSw; go_simp; try with_reducible rfl
          try go_simp
          refine wpAnyH_take (i := 12) (v := ?_) rfl (by kernel_rfl) (by kernel_rfl) (by kernel_rfl) (fun _ _ _ h => h) (Or.inl ⟨by rfl, ?_⟩) hHeld ?_
          rotate_left
          · intro wS hSw; obtain ⟨hS0, hS1⟩ := hSw; go_simp; try with_reducible rfl
          try go_simp
          refine wpAnyH_done (by kernel_rfl) ?_ _
          go_wp2
          obtain ⟨hB, hQ, hR⟩ := rt_end (row := 0) hs5 hg6 hg7 hhd lhd (HOK.out.move h0 h1 (by omega) (by omega) (Or.inl rfl) (Or.inr rfl))
          refine bodyPost_ret (results_cc111 Tryd.results15 rfl rfl (run_loadVar_mid _ (w.heap.size + 1) 0 28 (dqList A B room (some ⟨hd, 0, none⟩) 2 0 now s1) _ (hq6.kept hg7 (fun e => by injection e with e; omega)).range Tryd.underlying28 rfl (by kernel_rfl)) (run_loadVar_mid _ (w.heap.size + 1 + 1) 0 30 (pktList y.p) _ hp7.range Tryd.underlying30 rfl (by kernel_rfl))) rfl ?_
          rw [HTK.out]
          exact ⟨hd, 0, 2, a1', d1', a4, d4, da, dc, rfl, hB, by rw [show yt.length = n3 - 1 by omega]; exact hQ, hR⟩
        · skip
          obtain ⟨g, o, rfl, hry⟩ := HST.out.hl.rd.at0
          have hgw : w.heap.size + 3 ≤ g ∧ g < wr.heap.size := by
            obtain ⟨g', e', h4, h5⟩ := HST.out.hl.head (by omega)
            injection e' with e'
            injection e' with e1 e2
            subst e1
            exact ⟨h4, h5⟩
          have dn : decide ((0 : Int) < (n3 : Int)) = true := decide_eq_true (by omega)
          have hsy := (ok_since HOK.out).2 y yt rfl
          have HPM := Lib.hid (press_min (B := B) (now := now) (y := y) (yt := yt))
          obtain ⟨z, hz⟩ : ∃ z, y.since = z := ⟨_, rfl⟩
          have c8 : wr.cell? ⟨g, o + 8, none⟩ = some (.int .i64 z) := hz ▸ hry 8 _ rfl
          rw [hz] at hsy HPM
          have hm := Du.mul_bd b0 b1 (show 0 ≤ now - z by omega) (by omega)
          have e1 : IntKind.i64.wrap (now - z) = now - z := by rw [IntKind.wrap_i64]; omega
          have e2 : IntKind.i64.wrap (B * (now - z)) = B * (now - z) := by
            generalize B * (now - z) = q at hm ⊢
            rw [IntKind.wrap_i64]
            omega
          obtain ⟨k, hk⟩ : ∃ k, Du.press B now (y :: yt) = k := ⟨_, rfl⟩
          rw [hk] at HPM
          have hpm := HPM.out
          have k0 : 0 ≤ k ∧ k ≤ 1000000 := by
            rw [← hpm]
            generalize B * (now - z) = q at hm ⊢
            omega
          have hg8 : some g ≠ (some w.heap.size : Option Nat) := fun e => by injection e with e; omega
          have HRY := Lib.hid hry
          clear hry hz
          rw [hk] at hdec
          have dge : decide (k * k / 1000000 ≤ Du.rnd s') = false := decide_eq_false hdec
          have htk : Du.take A B now [] ys v0 s [] = Du.take A B now [] yt 0 (Rand.nextSeed s') (drops ++ [y.p]) := HTK.out.trans (by rw [Du.take, hk, if_pos (by omega)])
          have hrb := fun V => rb_any s' V
          generalize Rand.nextSeed s' = s1 at hrb htk
          have HRB := Lib.hid hrb
          clear hrb
          have HTK := Lib.hid htk
          have hkk : 0 ≤ k * k ∧ k * k ≤ 1000000000000 := by
            refine ⟨Int.mul_nonneg k0.1 k0.1, ?_⟩
            have h1 : k * k ≤ 1000000 * k := Int.mul_le_mul_of_nonneg_right k0.2 k0.1
            omega
          have e3 : IntKind.i64.wrap (k * k) = k * k := by
            generalize k * k = q at hkk ⊢
            rw [IntKind.wrap_i64]
            omega
          obtain ⟨a', ha'⟩ : ∃ a', (if d3 = 1 then some (⟨g, o, none⟩ : Addr) else some ⟨g, o + 9, none⟩) = a' := ⟨_, rfl⟩
          have htl := HST.out.hl.rd.tl HST.out.hl.cap
          rw [ha'] at htl
          have HTL := Lib.hid htl
          have hn1' : (1 : Int) ≤ n3 := by omega
          have hn2' : 1 ≤ n3 := by omega
          have c6 := HST.out.hq.cell 6 rfl
          have HK2 := Lib.hid (HST.out.hq.cell 2 rfl)
          have HC8 := Lib.hid c8
          have HHK := Lib.hid hk
          clear hdec htk c8 hk htl
          go_wp2_with fail
          refine wp_region_held_drew (S := (fun V => V.cell? ⟨w.heap.size, 2, none⟩ = some (.int .i64 B) ∧ V.cell? ⟨g, o + 8, none⟩ = some (.int .i64 z))) (by kernel_rfl) ?_ (fun hHeld => ?_)
          · exact ⟨below_cell_of (below_drawn (Below.refl _ _)) HK2.out, below_cell_of (below_drawn (Below.refl _ _)) HC8.out⟩
          refine wpAnyH_take (i := 0) (v := ?_) rfl (by kernel_rfl) (by kernel_rfl) (by kernel_rfl) (fun _ _ _ h => h) (Or.inl ⟨by rfl, ?_⟩) hHeld ?_
          rotate_left
          · intro wS hSw; obtain ⟨hS0, hS1⟩ := hSw; go_simp; try with_reducible rfl
          try go_simp
          refine wpAnyH_take (i := 1) (v := ?_) rfl (by kernel_rfl) (by kernel_rfl) (by kernel_rfl) (fun _ _ _ h => h) (Or.inl ⟨by rfl, ?_⟩) hHeld ?_
          rotate_left
          · intro wS hSw; obtain ⟨hS0, hS1⟩ := hSw; go_simp; try with_reducible rfl
          try go_simp
          refine wpAnyH_take (i := 2) (v := ?_) rfl (by kernel_rfl) (by kernel_rfl) (by kernel_rfl) (fun _ _ _ h => h) (Or.inl ⟨by rfl, ?_⟩) hHeld ?_
          rotate_left
          · intro wS hSw; obtain ⟨hS0, hS1⟩ := hSw; go_simp; try with_reducible rfl
          try go_simp
          refine wpAnyH_take (i := 3) (v := ?_) rfl (by kernel_rfl) (by kernel_rfl) (by kernel_rfl) (fun _ _ _ h => h) (Or.inl ⟨by rfl, ?_⟩) hHeld ?_
          rotate_left
          · intro wS hSw; obtain ⟨hS0, hS1⟩ := hSw; go_simp; try with_reducible rfl
          try go_simp
          refine wpAnyH_take (i := 4) (v := ?_) rfl (by kernel_rfl) (by kernel_rfl) (by kernel_rfl) (fun _ _ _ h => h) (Or.inl ⟨by rfl, ?_⟩) hHeld ?_
          rotate_left
          · intro wS hSw; obtain ⟨hS0, hS1⟩ := hSw; go_simp; try with_reducible rfl
          try go_simp
          refine wpAnyH_take (i := 5) (v := ?_) rfl (by kernel_rfl) (by kernel_rfl) (by kernel_rfl) (fun _ _ _ h => h) (Or.inl ⟨by rfl, ?_⟩) hHeld ?_
          rotate_left
          · intro wS hSw; obtain ⟨hS0, hS1⟩ := hSw; go_simp; try with_reducible rfl
          try go_simp
          refine wpAnyH_take (i := 6) (v := ?_) rfl (by kernel_rfl) (by kernel_rfl) (by kernel_rfl) (fun _ _ _ h => h) (Or.inl ⟨by rfl, ?_⟩) hHeld ?_
          rotate_left
          · intro wS hSw; obtain ⟨hS0, hS1⟩ := hSw; go_simp; try with_reducible rfl
          try go_simp
          refine wpAnyH_take (i := 7) (v := ?_) rfl (by kernel_rfl) (by kernel_rfl) (by kernel_rfl) (fun _ _ _ h => h) (Or.inl ⟨by rfl, ?_⟩) hHeld ?_
          rotate_left
          · intro wS hSw; obtain ⟨hS0, hS1⟩ := hSw; go_simp; try with_reducible rfl
          try go_simp
          refine wpAnyH_take (i := 8) (v := ?_) rfl (by kernel_rfl) (by kernel_rfl) (by kernel_rfl) (fun _ _ _ h => h) (Or.inl ⟨by rfl, ?_⟩) hHeld ?_
          rotate_left
          · intro wS hSw; obtain ⟨hS0, hS1⟩ := hSw; go_simp; try with_reducible rfl
          try go_simp
          refine wpAnyH_take (i := 9) (v := ?_) rfl (by kernel_rfl) (by kernel_rfl) (by kernel_rfl) (fun _ _ _ h => h) (Or.inl ⟨by rfl, ?_⟩) hHeld ?_
          rotate_left
          · intro wS hSw; obtain ⟨hS0, hS1⟩ := hSw; go_simp; try with_reducible rfl
          try go_simp
          refine wpAnyH_take (i := 10) (v := ?_) rfl (by kernel_rfl) (by kernel_rfl) (by kernel_rfl) (fun _ _ _ h => h) (Or.inl ⟨by rfl, ?_⟩) hHeld ?_
          rotate_left
          · intro wS hSw; obtain ⟨hS0, hS1⟩ := hSw; go_simp; try with_reducible rfl
          try go_simp
          refine wpAnyH_take (i := 11) (v := ?_) rfl (by kernel_rfl) (by kernel_rfl) (by kernel_rfl) (fun _ _ _ h => h) (Or.inl ⟨by rfl, ?_⟩) hHeld ?_
          rotate_left
          · intro wS hSw; obtain ⟨hS0, hS1⟩ := hSw; go_simp; try with_reducible rfl
          try go_simp
          refine wpAnyH_done (by kernel_rfl) ?_ _
          obtain ⟨V0, hV0⟩ : ∃ V0, wr.drew = V0 := ⟨_, rfl⟩
          rw [hV0]
          have hB0 : Below wr.heap.size wr V0 := hV0 ▸ below_drawn (Below.refl _ _)
          have HST0 := Lib.hid (HST.out.below hB0)
          have HRY0 := Lib.hid (rangeAt_below HRY.out hB0)
          have HTL0 := Lib.hid (HTL.out.below hB0)
          have c14 := HST0.out.hq.cell 14 rfl
          have zq0 := HST0.out.hp.lt
          clear hV0 hB0 HST HRY HTL HK2 HC8
          go_wp2_with fail
          refine (HRB.out _).mono ?_
          rintro e w4 ⟨rfl, rfl⟩
          go_upto_region 16 with (first | (refine wpList_load_mid rfl 30 (.tmp 77) rfl g o (by first | rfl | exact congrArg (fun x => Value.pointer (some x)) (Addr.add_mid _ _ _)) (pktList y.p) _ (item_pkt (rangeAt_below HRY0.out (by exact (by repeat (first | exact Below.refl _ _ | refine below_set ?_ (by first | omega | (simp; done) | (simp; omega)) _ | refine below_drawnN ?_ _ | refine below_drawn ?_ | refine below_new ?_ _))))) Tryd.underlying30 rfl (by kernel_rfl) ?_) | (refine wpList_store_at rfl 30 (.tmp 17) (.tmp 78) rfl _ _ (pktList y.p).toArray rfl (by simp only) rfl (by kernel_rfl) rfl rfl ?_) | (refine wpList_copy_new rfl (.tmp 79) (.tmp 81) rfl rfl rfl (HTL0.out.below (by exact (by repeat (first | exact Below.refl _ _ | refine below_set ?_ (by first | omega | (simp; done) | (simp; omega)) _ | refine below_drawnN ?_ _ | refine below_drawn ?_ | refine below_new ?_ _)))) (by omega) ?_; intro a4 d4 V2 hown hb2; have hB2 : Below V0.heap.size V0 V2 := below_on (by exact (by repeat (first | exact Below.refl _ _ | refine below_set ?_ (by first | omega | (simp; done) | (simp; omega)) _ | refine below_drawnN ?_ _ | refine below_drawn ?_ | refine below_new ?_ _))) hb2; have HS2 := Lib.hid ((HST0.out.below hB2).list2 (hown.mono (base' := w.heap.size + 3) (by simp; omega))); have HS3 := Lib.hid ((HS2.out.row 0).seed s1); have hPK : Blk V2 V0.heap.size (pktList y.p) := Blk.below (Blk.below (Blk.new _ (pktList y.p).toArray 30) (below_new (Below.refl _ _) _)) hb2; have HPK := Lib.hid hPK; have HPK3 := Lib.hid ((hPK.kept (grown_set V2 ⟨w.heap.size, 6, none⟩ (.int .i64 0)) (fun e => by injection e with e; simp only at e; omega)).kept (grown_set _ ⟨w.heap.size, 14, none⟩ (.int .u64 (s1 : Int))) (fun e => by injection e with e; simp only at e; omega)); have c6' := HS2.out.hq.cell 6 rfl; have c14' := HS2.out.hq.cell 14 rfl; have f6 := HS2.out.hq.frozen ⟨w.heap.size, 6, none⟩ rfl; have f14 := HS2.out.hq.frozen ⟨w.heap.size, 14, none⟩ rfl; have hs2 := hB2.size; clear hB2 hb2 hown hPK))
          have hs4 := HS3.out
          have hk4 := HPK3.out
          obtain ⟨V4, hV4⟩ : ∃ V4, (V2.setCell ⟨w.heap.size, 6, none⟩ (.int .i64 0)).setCell ⟨w.heap.size, 14, none⟩ (.int .u64 (s1 : Int)) = V4 := ⟨_, rfl⟩
          rw [hV4] at hs4 hk4 ⊢
          have HS4 := Lib.hid hs4
          have HK4 := Lib.hid hk4
          have hz4 := hs4.hp.lt
          clear hs4 hk4 hV4 c6' c14' f6 f14 HS3 HPK3
          go_wp2_with (first | (refine wpList_load_mid rfl 30 (.tmp 17) rfl V0.heap.size 0 rfl (pktList y.p) _ HK4.out.range Tryd.underlying30 rfl (by kernel_rfl) ?_) | (refine wpList_build_pkt rfl (.tmp 102) rfl y.p rfl ?_) | (refine wpList_add_pkt rfl (.tmp 101) (.tmp 103) rfl rfl (own_below8 HS4.out.hd (below_new (Below.refl _ _) _)) (by simp; omega) V4.heap.size 0 y.p rfl (by exact (Blk.new V4 (pktList y.p).toArray 30).range) (by omega) ?_; intro v' V5 hown5 hgr5; have HS5 := Lib.hid ((HS4.out.below (below_new (Below.refl _ _) _)).push hgr5 hown5); clear hown5 hgr5))
          go_roundw
          case rel => exact ⟨0, s1, a4, n3 - 1, d4, yt, drops ++ [y.p], rfl, HS5.out, (HOK.out.move (Int.le_refl _) ht0 (by omega) (by omega) (Or.inl rfl) (Or.inr rfl)), by simp at hcnt ⊢; omega, HTK.out⟩
          case measure => simp [lenOf]; omega
    · obtain ⟨x, xt, rfl⟩ : ∃ x xt, xs = x :: xt := by
        cases xs with
        | nil => exact absurd hl1.symm hx0
        | cons x xt => exact ⟨x, xt, rfl⟩
      rcases zs with _ | ⟨y, yt⟩
      · obtain rfl : n3 = 0 := by simpa using hl3.symm
        by_cases hA : A ≤ now - x.since
        · skip
          obtain ⟨gx, ox, rfl, hrx⟩ := HST.out.ha.rd.at0
          have hgx : w.heap.size + 3 ≤ gx ∧ gx < wr.heap.size := by
            obtain ⟨g', e', h4, h5⟩ := HST.out.ha.head (by omega)
            injection e' with e'
            injection e' with e1 e2
            subst e1
            exact ⟨h4, h5⟩
          have hsx := (ok_since HOK.out).1 x xt rfl
          obtain ⟨zx, hzx⟩ : ∃ z, x.since = z := ⟨_, rfl⟩
          have c8x : wr.cell? ⟨gx, ox + 8, none⟩ = some (.int .i64 zx) := hzx ▸ hrx 8 _ rfl
          rw [hzx] at hsx
          have e1x : IntKind.i64.wrap (now - zx) = now - zx := by rw [IntKind.wrap_i64]; omega
          have dz : ((n1 : Int) == 0) = false := by simp; omega
          have hgx6 : some gx ≠ (some w.heap.size : Option Nat) := fun e => by injection e with e; omega
          have HRX := Lib.hid hrx
          have HCX := Lib.hid c8x
          clear hrx c8x
          obtain ⟨b', hb'⟩ : ∃ b', (if d1' = 1 then some (⟨gx, ox, none⟩ : Addr) else some ⟨gx, ox + 9, none⟩) = b' := ⟨_, rfl⟩
          have htl := HST.out.ha.rd.tl HST.out.ha.cap
          rw [hb'] at htl
          have HTLX := Lib.hid htl
          clear htl
          have hx1' : (1 : Int) ≤ n1 := by omega
          have hx2' : 1 ≤ n1 := by omega
          have hx3' : 0 < n1 := by omega
          have hx4' : (0 : Int) < n1 := by omega
          have hx5 : n1 ≤ 500 := by have := HOK.out.short.1; omega
          have hlx : xt.length = n1 - 1 := by simp only [List.length_cons] at hl1; omega
          rw [hzx] at hA
          have htk : Du.take A B now (x :: xt) ys v0 s [] = ⟨xt, [], 0, s', some { x.p with marked := true }, drops⟩ := HTK.out.trans (by rw [Du.take, if_pos (by rw [hzx]; omega)])
          have HTK := Lib.hid htk
          clear htk
          as_aux_lemma =>
            skip
            have dA : decide (A ≤ now - zx) = true := decide_eq_true hA
            have c6 := HST.out.hq.cell 6 rfl
            have f6 := HST.out.hq.frozen ⟨w.heap.size, 6, none⟩ rfl
            have HS1 := Lib.hid ((HST.out.row (row + 1)).row 0)
            have hG1 : wr.grownBy ((wr.setCell ⟨w.heap.size, 6, none⟩ (.int .i64 (row + 1))).setCell ⟨w.heap.size, 6, none⟩ (.int .i64 0)) (some w.heap.size) := grown_trans (grown_set wr ⟨w.heap.size, 6, none⟩ _) (grown_set _ ⟨w.heap.size, 6, none⟩ _)
            have HRX1 := Lib.hid (rangeAt_kept HRX.out hG1 hgx6)
            have HTX1 := Lib.hid (HTLX.out.kept hG1 (fun ad e => by
              rcases Nat.eq_zero_or_pos (n1 - 1) with h | h
              · rw [← hb'] at e; split at e <;> (injection e with e; subst e; exact hgx6)
              · rw [← hb'] at e; split at e <;> (injection e with e; subst e; exact hgx6)))
            have c6' : ∀ v, (wr.setCell ⟨w.heap.size, 6, none⟩ v).frozen? ⟨w.heap.size, 6, none⟩ = false := fun v => ((HST.out.hq.set 6 v).frozen ⟨w.heap.size, 6, none⟩ rfl)
            go_upto_region 25 with fail
            have hb0 : Below ((wr.setCell ⟨w.heap.size, 6, none⟩ (.int .i64 (row + 1))).setCell ⟨w.heap.size, 6, none⟩ (.int .i64 0)).heap.size ((wr.setCell ⟨w.heap.size, 6, none⟩ (.int .i64 (row + 1))).setCell ⟨w.heap.size, 6, none⟩ (.int .i64 0)) ((wr.setCell ⟨w.heap.size, 6, none⟩ (.int .i64 (row + 1))).setCell ⟨w.heap.size, 6, none⟩ (.int .i64 0)) := Below.refl _ _
            have hs0 := HS1.out.below hb0
            have hx0' := rangeAt_below HRX1.out hb0
            have ht0' := HTX1.out.below hb0
            obtain ⟨V0, hV0⟩ : ∃ V0, ((wr.setCell ⟨w.heap.size, 6, none⟩ (.int .i64 (row + 1))).setCell ⟨w.heap.size, 6, none⟩ (.int .i64 0)) = V0 := ⟨_, rfl⟩
            rw [hV0] at hs0 hx0' ht0'
            rw [hV0]
            have HS0 := Lib.hid hs0
            have HRX0 := Lib.hid hx0'
            have HTX0 := Lib.hid ht0'
            have zq0 := hs0.hp.lt
            clear hs0 hx0' ht0' hV0 hb0 hG1 c6 f6
            go_wp2_with (first | (refine wpList_load_mid rfl 30 (.tmp 142) rfl gx ox (by first | rfl | exact congrArg (fun x => Value.pointer (some x)) (Addr.add_mid _ _ _)) (pktList x.p) _ (item_pkt (rangeAt_below HRX0.out (by exact (by repeat (first | exact Below.refl _ _ | refine below_set ?_ (by first | omega | (simp; done) | (simp; omega)) _ | refine below_drawnN ?_ _ | refine below_drawn ?_ | refine below_new ?_ _))))) Tryd.underlying30 rfl (by kernel_rfl) ?_) | (refine wpList_store_at rfl 30 (.tmp 19) (.tmp 143) rfl _ _ (pktList x.p).toArray rfl (by first | rfl | simp only) rfl (by kernel_rfl) rfl rfl ?_))
            obtain ⟨V2, hV2⟩ : ∃ V2, V0.alloc (.cells (pktList x.p).toArray 30) = V2 := ⟨_, rfl⟩
            rw [hV2]
            have hb2 : Below V0.heap.size V0 V2 := by rw [← hV2]; exact below_new (Below.refl _ _) _
            have hap := HS0.out.apart
            have hk2 : Blk V2 V0.heap.size (pktList x.p) := by rw [← hV2]; exact Blk.new _ _ _
            have HS2 := Lib.hid (HS0.out.below hb2)
            have HRX2 := Lib.hid (rangeAt_below HRX0.out hb2)
            have HTX2 := Lib.hid (HTX0.out.below hb2)
            obtain ⟨pk, epk⟩ : ∃ z, V0.heap.size = z := ⟨_, rfl⟩
            rw [epk] at hk2 zq0 hap ⊢
            have hgp : some gx ≠ some pk := fun e => hap.1 ⟨gx, ox, none⟩ rfl hx3' (by injection e)
            have HAP := Lib.hid hap
            have HK2 := Lib.hid hk2
            have zk2 := hk2.lt
            clear hV2 hb2 hk2 epk hap
            refine wp_region_held_drew (S := (fun V => V.cell? ⟨w.heap.size, 1, none⟩ = some (.int .i64 A) ∧ V.cell? ⟨gx, ox + 8, none⟩ = some (.int .i64 zx))) (by kernel_rfl) ?_ (fun hHeld => ?_)
            · exact ⟨below_cell_of (below_drawn (Below.refl _ _)) (HS2.out.hq.cell 1 rfl), below_cell_of (below_drawn (Below.refl _ _)) (hzx ▸ HRX2.out 8 _ rfl)⟩
            refine wpAnyH_take (i := 0) (v := ?_) rfl (by kernel_rfl) (by kernel_rfl) (by kernel_rfl) (fun _ _ _ h => h) (Or.inl ⟨by rfl, ?_⟩) hHeld ?_
            rotate_left
            · intro wS hSw; obtain ⟨hS0, hS1⟩ := hSw; go_simp; try with_reducible rfl
            try go_simp
            refine wpAnyH_take (i := 1) (v := ?_) rfl (by kernel_rfl) (by kernel_rfl) (by kernel_rfl) (fun _ _ _ h => h) (Or.inl ⟨by rfl, ?_⟩) hHeld ?_
            rotate_left
            · intro wS hSw; obtain ⟨hS0, hS1⟩ := hSw; go_simp; try with_reducible rfl
            try go_simp
            refine wpAnyH_take (i := 2) (v := ?_) rfl (by kernel_rfl) (by kernel_rfl) (by kernel_rfl) (fun _ _ _ h => h) (Or.inl ⟨by rfl, ?_⟩) hHeld ?_
            rotate_left
            · intro wS hSw; obtain ⟨hS0, hS1⟩ := hSw; go_simp; try with_reducible rfl
            try go_simp
            refine wpAnyH_take (i := 3) (v := ?_) rfl (by kernel_rfl) (by kernel_rfl) (by kernel_rfl) (fun _ _ _ h => h) (Or.inl ⟨by rfl, ?_⟩) hHeld ?_
            rotate_left
            · intro wS hSw; obtain ⟨hS0, hS1⟩ := hSw; go_simp; try with_reducible rfl
            try go_simp
            refine wpAnyH_take (i := 4) (v := ?_) rfl (by kernel_rfl) (by kernel_rfl) (by kernel_rfl) (fun _ _ _ h => h) (Or.inl ⟨by rfl, ?_⟩) hHeld ?_
            rotate_left
            · intro wS hSw; obtain ⟨hS0, hS1⟩ := hSw; go_simp; try with_reducible rfl
            try go_simp
            refine wpAnyH_take (i := 5) (v := ?_) rfl (by kernel_rfl) (by kernel_rfl) (by kernel_rfl) (fun _ _ _ h => h) (Or.inl ⟨by rfl, ?_⟩) hHeld ?_
            rotate_left
            · intro wS hSw; obtain ⟨hS0, hS1⟩ := hSw; go_simp; try with_reducible rfl
            try go_simp
            refine wpAnyH_take (i := 6) (v := ?_) rfl (by kernel_rfl) (by kernel_rfl) (by kernel_rfl) (fun _ _ _ h => h) (Or.inl ⟨by rfl, ?_⟩) hHeld ?_
            rotate_left
            · intro wS hSw; obtain ⟨hS0, hS1⟩ := hSw; go_simp; try with_reducible rfl
            try go_simp
            refine wpAnyH_take (i := 7) (v := ?_) rfl (by kernel_rfl) (by kernel_rfl) (by kernel_rfl) (fun _ _ _ h => h) (Or.inl ⟨by rfl, ?_⟩) hHeld ?_
            rotate_left
            · intro wS hSw; obtain ⟨hS0, hS1⟩ := hSw; go_simp; try with_reducible rfl
            try go_simp
            refine wpAnyH_take (i := 8) (v := ?_) rfl (by kernel_rfl) (by kernel_rfl) (by kernel_rfl) (fun _ _ _ h => h) (Or.inl ⟨by rfl, ?_⟩) hHeld ?_
            rotate_left
            · intro wS hSw; obtain ⟨hS0, hS1⟩ := hSw; go_simp; try with_reducible rfl
            try go_simp
            refine wpAnyH_take (i := 9) (v := ?_) rfl (by kernel_rfl) (by kernel_rfl) (by kernel_rfl) (fun _ _ _ h => h) (Or.inl ⟨by rfl, ?_⟩) hHeld ?_
            rotate_left
            · intro wS hSw; obtain ⟨hS0, hS1⟩ := hSw; go_simp; try with_reducible rfl
            try go_simp
            refine wpAnyH_done (by kernel_rfl) ?_ _
            have hb3 : Below V2.heap.size V2 V2.drew := below_drawn (Below.refl _ _)
            have hs3 := HS2.out.below hb3
            have hk3 := HK2.out.below hb3
            have ht3 := HTX2.out.below hb3
            obtain ⟨V3, hV3⟩ : ∃ V3, V2.drew = V3 := ⟨_, rfl⟩
            rw [hV3] at hs3 hk3 ht3 ⊢
            have c7 := hk3.cell 7 rfl
            have f7 := hk3.frozen ⟨pk, 7, none⟩ rfl
            have c14 := hs3.hq.cell 14 rfl
            have f14 := hs3.hq.frozen ⟨w.heap.size, 14, none⟩ rfl
            have zk3 := hk3.lt
            have HS3 := Lib.hid hs3
            have HK3 := Lib.hid hk3
            have HTX3 := Lib.hid ht3
            clear hs3 hk3 ht3 hb3 hV3 HS2 HK2 HTX2 HRX2
            have HS4 := Lib.hid (RSt.other HS3.out (grown_set V3 ⟨pk, 7, none⟩ (.bool true)) zq0 HAP.out)
            have htx4 := HTX3.out
            have HTX4 := Lib.hid (htx4.kept (grown_set V3 ⟨pk, 7, none⟩ (.bool true)) (fun ad e => by rw [← hb'] at e; split at e <;> (injection e with e; subst e; exact hgp)))
            clear htx4
            have HK4 := Lib.hid (HK3.out.set 7 (.bool true))
            go_wp2_with (first | (refine wpList_copy_new rfl (.tmp 173) (.tmp 175) rfl rfl rfl (HTX4.out.below (by exact (by repeat (first | exact Below.refl _ _ | refine below_set ?_ (by first | omega | (simp; done) | (simp; omega)) _ | refine below_drawnN ?_ _ | refine below_drawn ?_ | refine below_new ?_ _)))) (by omega) ?_; intro a4 d4 V5 hown hb5; have hB5 : Below (V3.setCell ⟨pk, 7, none⟩ (.bool true)).heap.size (V3.setCell ⟨pk, 7, none⟩ (.bool true)) V5 := below_on (by exact (by repeat (first | exact Below.refl _ _ | refine below_set ?_ (by first | omega | (simp; done) | (simp; omega)) _ | refine below_drawnN ?_ _ | refine below_drawn ?_ | refine below_new ?_ _))) hb5; have HS5 := Lib.hid ((HS4.out.below hB5).list1 (hown.mono (base' := w.heap.size + 3) (by simp; omega))); have HK5 := Lib.hid (HK4.out.below hB5); clear hB5 hb5 hown))
            have hs4 := HS5.out
            have hk4 := HK5.out
            obtain ⟨V4, rfl⟩ : ∃ V4, V4 = V5 := ⟨_, rfl⟩
            have HS4 := Lib.hid hs4
            have HK4 := Lib.hid hk4
            have hz4 := hs4.hp.lt
            clear hs4 hk4
            refine wp_region_held_drew (S := (fun V => V.rangeAt w.heap.size 0 (dqList A B room (some ⟨ab, ao, none⟩) lc 0 v7 s') ∧ V.rangeAt (pk) 0 (pktList { x.p with marked := true }))) (by kernel_rfl) ?_ (fun hHeld => ?_)
            · exact ⟨(HS4.out.hq.below (below_drawn (Below.refl _ _))).range, (HK4.out.below (below_drawn (Below.refl _ _))).range⟩
            refine wpAnyH_take (i := 0) (v := (.agg (dqList A B room (some ⟨ab, ao, none⟩) lc 0 v7 s').toArray)) rfl (by kernel_rfl) (by kernel_rfl) (by kernel_rfl) (fun _ _ _ h => h) (yieldsIf_load_mid (by rfl) 28 _ rfl w.heap.size 0 rfl (dqList A B room (some ⟨ab, ao, none⟩) lc 0 v7 s') _ (fun _ h => h.1) Tryd.underlying28 rfl (by kernel_rfl)) hHeld ?_
            try go_simp
            refine wpAnyH_take (i := 6) (v := (.agg (pktList { x.p with marked := true }).toArray)) rfl (by kernel_rfl) (by kernel_rfl) (by kernel_rfl) (fun _ _ _ h => h) (yieldsIf_load_mid (by rfl) 30 _ rfl (pk) 0 rfl (pktList { x.p with marked := true }) _ (fun _ h => h.2) Tryd.underlying30 rfl (by kernel_rfl)) hHeld ?_
            try go_simp
            refine wpAnyH_take (i := 1) (v := ?_) rfl (by kernel_rfl) (by kernel_rfl) (by kernel_rfl) (fun _ _ _ h => h) (Or.inl ⟨by rfl, ?_⟩) hHeld ?_
            rotate_left
            · intro wS hSw; obtain ⟨hS0, hS1⟩ := hSw; go_simp; try with_reducible rfl
            try go_simp
            refine wpAnyH_take (i := 2) (v := ?_) rfl (by kernel_rfl) (by kernel_rfl) (by kernel_rfl) (fun _ _ _ h => h) (Or.inl ⟨by rfl, ?_⟩) hHeld ?_
            rotate_left
            · intro wS hSw; obtain ⟨hS0, hS1⟩ := hSw; go_simp; try with_reducible rfl
            try go_simp
            refine wpAnyH_take (i := 4) (v := ?_) rfl (by kernel_rfl) (by kernel_rfl) (by kernel_rfl) (fun _ _ _ h => h) (Or.inl ⟨by rfl, ?_⟩) hHeld ?_
            rotate_left
            · intro wS hSw; obtain ⟨hS0, hS1⟩ := hSw; go_simp; try with_reducible rfl
            try go_simp
            refine wpAnyH_take (i := 7) (v := ?_) rfl (by kernel_rfl) (by kernel_rfl) (by kernel_rfl) (fun _ _ _ h => h) (Or.inl ⟨by rfl, ?_⟩) hHeld ?_
            rotate_left
            · intro wS hSw; obtain ⟨hS0, hS1⟩ := hSw; go_simp; try with_reducible rfl
            try go_simp
            refine wpAnyH_ready (rs := [3]) (by kernel_rfl) (by simp) ?_
            refine AllReadyH.cons rfl (fun K hK => ?_) AllReadyH.nil
            go_simp
            have hA : Below V4.heap.size V4 (V4.alloc (.cells ([(.slice a4 (n1 - 1) d4), (.slice a3 0 d3)] : List Value).toArray 49)).drew := below_drawn (below_new (Below.refl _ _) _)
            have hhd := (Blk.new V4 ([(.slice a4 (n1 - 1) d4), (.slice a3 0 d3)] : List Value).toArray 49).below (below_drawn (Below.refl _ _))
            obtain ⟨hd, ehd⟩ : ∃ z, V4.heap.size = z := ⟨_, rfl⟩
            rw [ehd] at hhd ⊢
            have lhd : w.heap.size + 2 < hd := by omega
            clear ehd
            refine hK.out _ _ ?_ (fun hHeld => ?_)
            · exact ⟨rangeAt_below hHeld.1 (below_new (Below.refl _ _) _), rangeAt_below hHeld.2 (below_new (Below.refl _ _) _)⟩
            clear hK K
            try go_simp
            refine wpAnyH_ready (rs := [5]) (by kernel_rfl) (by simp) ?_
            refine AllReadyH.cons rfl (fun K hK => ?_) AllReadyH.nil
            go_simp
            refine (with_any 6 A B 0 room (some ⟨ab, ao, none⟩) 2 lc 0 0 0 0 0 0 0 v7 s' (some ⟨hd, 0, none⟩) 2 2 now _).mono ?_
            rintro e W5 ⟨rfl, hbc⟩
            have hA := below_on hA hbc
            have hhd := hhd.below hbc
            have hs5 := HS4.out.below hA
            refine hK.out _ _ ?_ (fun hHeld => ?_)
            · exact ⟨rangeAt_below hHeld.1 hbc, rangeAt_below hHeld.2 hbc⟩
            clear hK K
            try go_simp
            refine wpAnyH_ready (rs := [8]) (by kernel_rfl) (by simp) ?_
            refine AllReadyH.cons rfl (fun K hK => ?_) AllReadyH.nil
            refine ready_store_blk (by rfl) _ 28 _ _ rfl (w.heap.size + 1) zeroDQ (dqList A B room (some ⟨hd, 0, none⟩) 2 0 now s') rfl rfl hs5.hz (by kernel_rfl) rfl (dqList_one _ _ _ _ _ _ _ _) ?_
            intro V6 hq6 hg6
            have hp6 := hs5.hp.kept hg6 (fun e => by injection e with e; omega)
            refine hK.out _ _ ?_ (fun hHeld => ?_)
            · exact ⟨rangeAt_kept hHeld.1 hg6 (fun e => by injection e with e; omega), rangeAt_kept hHeld.2 hg6 (fun e => by injection e with e; omega)⟩
            clear hK K
            try go_simp
            refine wpAnyH_ready (rs := [9]) (by kernel_rfl) (by simp) ?_
            refine AllReadyH.cons rfl (fun K hK => ?_) AllReadyH.nil
            refine ready_store_blk (by rfl) _ 30 _ _ rfl (w.heap.size + 1 + 1) zeroP (pktList { x.p with marked := true }) rfl rfl hp6 (by kernel_rfl) rfl (pktList_one _) ?_
            intro V7 hp7 hg7
            refine hK.out _ _ ?_ (fun hHeld => ?_)
            · exact ⟨rangeAt_kept hHeld.1 hg7 (fun e => by injection e with e; omega), rangeAt_kept hHeld.2 hg7 (fun e => by injection e with e; omega)⟩
            clear hK K
            try go_simp
            refine wpAnyH_take (i := 10) (v := ?_) rfl (by kernel_rfl) (by kernel_rfl) (by kernel_rfl) (fun _ _ _ h => h) (Or.inl ⟨by rfl, ?_⟩) hHeld ?_
            rotate_left
            · intro wS hSw; obtain ⟨hS0, hS1⟩ := hSw; go_simp; try with_reducible rfl
            try go_simp
            refine wpAnyH_take (i := 11) (v := ?_) rfl (by kernel_rfl) (by kernel_rfl) (by kernel_rfl) (fun _ _ _ h => h) (Or.inl ⟨by rfl, ?_⟩) hHeld ?_
            rotate_left
            · intro wS hSw; obtain ⟨hS0, hS1⟩ := hSw; go_simp; try with_reducible rfl
            try go_simp
            refine wpAnyH_take (i := 12) (v := ?_) rfl (by kernel_rfl) (by kernel_rfl) (by kernel_rfl) (fun _ _ _ h => h) (Or.inl ⟨by rfl, ?_⟩) hHeld ?_
            rotate_left
            · intro wS hSw; obtain ⟨hS0, hS1⟩ := hSw; go_simp; try with_reducible rfl
            try go_simp
            refine wpAnyH_done (by kernel_rfl) ?_ _
            go_wp2
            obtain ⟨hB, hQ, hR⟩ := rt_end (row := 0) hs5 hg6 hg7 hhd lhd (HOK.out.move h0 h1 (by omega) (by omega) (Or.inr rfl) (Or.inl rfl))
            refine bodyPost_ret (results_cc111 Tryd.results15 rfl rfl (run_loadVar_mid _ (w.heap.size + 1) 0 28 (dqList A B room (some ⟨hd, 0, none⟩) 2 0 now s') _ (hq6.kept hg7 (fun e => by injection e with e; omega)).range Tryd.underlying28 rfl (by kernel_rfl)) (run_loadVar_mid _ (w.heap.size + 1 + 1) 0 30 (pktList { x.p with marked := true }) _ hp7.range Tryd.underlying30 rfl (by kernel_rfl))) rfl ?_
            rw [HTK.out]
            exact ⟨hd, 0, 2, a4, d4, a3, d3, da, dc, rfl, hB, by rw [hlx]; exact hQ, hR⟩
        · cases hmk : x.p.marked with
          | true =>
            skip
            obtain ⟨gx, ox, rfl, hrx⟩ := HST.out.ha.rd.at0
            have hgx : w.heap.size + 3 ≤ gx ∧ gx < wr.heap.size := by
              obtain ⟨g', e', h4, h5⟩ := HST.out.ha.head (by omega)
              injection e' with e'
              injection e' with e1 e2
              subst e1
              exact ⟨h4, h5⟩
            have hsx := (ok_since HOK.out).1 x xt rfl
            obtain ⟨zx, hzx⟩ : ∃ z, x.since = z := ⟨_, rfl⟩
            have c8x : wr.cell? ⟨gx, ox + 8, none⟩ = some (.int .i64 zx) := hzx ▸ hrx 8 _ rfl
            rw [hzx] at hsx
            have e1x : IntKind.i64.wrap (now - zx) = now - zx := by rw [IntKind.wrap_i64]; omega
            have dz : ((n1 : Int) == 0) = false := by simp; omega
            have hgx6 : some gx ≠ (some w.heap.size : Option Nat) := fun e => by injection e with e; omega
            have HRX := Lib.hid hrx
            have HCX := Lib.hid c8x
            clear hrx c8x
            obtain ⟨b', hb'⟩ : ∃ b', (if d1' = 1 then some (⟨gx, ox, none⟩ : Addr) else some ⟨gx, ox + 9, none⟩) = b' := ⟨_, rfl⟩
            have htl := HST.out.ha.rd.tl HST.out.ha.cap
            rw [hb'] at htl
            have HTLX := Lib.hid htl
            clear htl
            have hx1' : (1 : Int) ≤ n1 := by omega
            have hx2' : 1 ≤ n1 := by omega
            have hx3' : 0 < n1 := by omega
            have hx4' : (0 : Int) < n1 := by omega
            have hx5 : n1 ≤ 500 := by have := HOK.out.short.1; omega
            have hlx : xt.length = n1 - 1 := by simp only [List.length_cons] at hl1; omega
            rw [hzx] at hA
            have htk : Du.take A B now (x :: xt) ys v0 s [] = ⟨xt, [], 0, Rand.nextSeed s', some { x.p with marked := true }, drops⟩ := HTK.out.trans (by rw [Du.take, if_neg (by rw [hzx]; omega), mark_same hmk])
            have HMK := Lib.hid hmk
            clear hmk
            have hrb := fun V => rb_any s' V
            generalize Rand.nextSeed s' = s1 at hrb htk
            as_aux_lemma =>
              have HRB := Lib.hid hrb
              clear hrb
              have HTK := Lib.hid htk
              clear htk
              have dA : decide (A ≤ now - zx) = false := decide_eq_false hA
              have c6 := HST.out.hq.cell 6 rfl
              have f6 := HST.out.hq.frozen ⟨w.heap.size, 6, none⟩ rfl
              have HS1 := Lib.hid ((HST.out.row (row + 1)).row 0)
              have hG1 : wr.grownBy ((wr.setCell ⟨w.heap.size, 6, none⟩ (.int .i64 (row + 1))).setCell ⟨w.heap.size, 6, none⟩ (.int .i64 0)) (some w.heap.size) := grown_trans (grown_set wr ⟨w.heap.size, 6, none⟩ _) (grown_set _ ⟨w.heap.size, 6, none⟩ _)
              have HRX1 := Lib.hid (rangeAt_kept HRX.out hG1 hgx6)
              have HTX1 := Lib.hid (HTLX.out.kept hG1 (fun ad e => by
                rcases Nat.eq_zero_or_pos (n1 - 1) with h | h
                · rw [← hb'] at e; split at e <;> (injection e with e; subst e; exact hgx6)
                · rw [← hb'] at e; split at e <;> (injection e with e; subst e; exact hgx6)))
              have c6' : ∀ v, (wr.setCell ⟨w.heap.size, 6, none⟩ v).frozen? ⟨w.heap.size, 6, none⟩ = false := fun v => ((HST.out.hq.set 6 v).frozen ⟨w.heap.size, 6, none⟩ rfl)
              go_upto_region 25 with fail
              have hb0 : Below ((wr.setCell ⟨w.heap.size, 6, none⟩ (.int .i64 (row + 1))).setCell ⟨w.heap.size, 6, none⟩ (.int .i64 0)).heap.size ((wr.setCell ⟨w.heap.size, 6, none⟩ (.int .i64 (row + 1))).setCell ⟨w.heap.size, 6, none⟩ (.int .i64 0)) ((wr.setCell ⟨w.heap.size, 6, none⟩ (.int .i64 (row + 1))).setCell ⟨w.heap.size, 6, none⟩ (.int .i64 0)) := Below.refl _ _
              have hs0 := HS1.out.below hb0
              have hx0' := rangeAt_below HRX1.out hb0
              have ht0' := HTX1.out.below hb0
              obtain ⟨V0, hV0⟩ : ∃ V0, ((wr.setCell ⟨w.heap.size, 6, none⟩ (.int .i64 (row + 1))).setCell ⟨w.heap.size, 6, none⟩ (.int .i64 0)) = V0 := ⟨_, rfl⟩
              rw [hV0] at hs0 hx0' ht0'
              rw [hV0]
              have HS0 := Lib.hid hs0
              have HRX0 := Lib.hid hx0'
              have HTX0 := Lib.hid ht0'
              have zq0 := hs0.hp.lt
              clear hs0 hx0' ht0' hV0 hb0 hG1 c6 f6
              go_wp2_with (first | (refine wpList_load_mid rfl 30 (.tmp 142) rfl gx ox (by first | rfl | exact congrArg (fun x => Value.pointer (some x)) (Addr.add_mid _ _ _)) (pktList x.p) _ (item_pkt (rangeAt_below HRX0.out (by exact (by repeat (first | exact Below.refl _ _ | refine below_set ?_ (by first | omega | (simp; done) | (simp; omega)) _ | refine below_drawnN ?_ _ | refine below_drawn ?_ | refine below_new ?_ _))))) Tryd.underlying30 rfl (by kernel_rfl) ?_) | (refine wpList_store_at rfl 30 (.tmp 19) (.tmp 143) rfl _ _ (pktList x.p).toArray rfl (by first | rfl | simp only) rfl (by kernel_rfl) rfl rfl ?_))
              obtain ⟨V2, hV2⟩ : ∃ V2, V0.alloc (.cells (pktList x.p).toArray 30) = V2 := ⟨_, rfl⟩
              rw [hV2]
              have hb2 : Below V0.heap.size V0 V2 := by rw [← hV2]; exact below_new (Below.refl _ _) _
              have hap := HS0.out.apart
              have hk2 : Blk V2 V0.heap.size (pktList x.p) := by rw [← hV2]; exact Blk.new _ _ _
              have HS2 := Lib.hid (HS0.out.below hb2)
              have HRX2 := Lib.hid (rangeAt_below HRX0.out hb2)
              have HTX2 := Lib.hid (HTX0.out.below hb2)
              obtain ⟨pk, epk⟩ : ∃ z, V0.heap.size = z := ⟨_, rfl⟩
              rw [epk] at hk2 zq0 hap ⊢
              have hgp : some gx ≠ some pk := fun e => hap.1 ⟨gx, ox, none⟩ rfl hx3' (by injection e)
              have HAP := Lib.hid hap
              have HK2 := Lib.hid hk2
              have zk2 := hk2.lt
              clear hV2 hb2 hk2 epk hap
              refine wp_region_held_drew (S := (fun V => V.cell? ⟨w.heap.size, 1, none⟩ = some (.int .i64 A) ∧ V.cell? ⟨gx, ox + 8, none⟩ = some (.int .i64 zx))) (by kernel_rfl) ?_ (fun hHeld => ?_)
              · exact ⟨below_cell_of (below_drawn (Below.refl _ _)) (HS2.out.hq.cell 1 rfl), below_cell_of (below_drawn (Below.refl _ _)) (hzx ▸ HRX2.out 8 _ rfl)⟩
              refine wpAnyH_take (i := 0) (v := ?_) rfl (by kernel_rfl) (by kernel_rfl) (by kernel_rfl) (fun _ _ _ h => h) (Or.inl ⟨by rfl, ?_⟩) hHeld ?_
              rotate_left
              · intro wS hSw; obtain ⟨hS0, hS1⟩ := hSw; go_simp; try with_reducible rfl
              try go_simp
              refine wpAnyH_take (i := 1) (v := ?_) rfl (by kernel_rfl) (by kernel_rfl) (by kernel_rfl) (fun _ _ _ h => h) (Or.inl ⟨by rfl, ?_⟩) hHeld ?_
              rotate_left
              · intro wS hSw; obtain ⟨hS0, hS1⟩ := hSw; go_simp; try with_reducible rfl
              try go_simp
              refine wpAnyH_take (i := 2) (v := ?_) rfl (by kernel_rfl) (by kernel_rfl) (by kernel_rfl) (fun _ _ _ h => h) (Or.inl ⟨by rfl, ?_⟩) hHeld ?_
              rotate_left
              · intro wS hSw; obtain ⟨hS0, hS1⟩ := hSw; go_simp; try with_reducible rfl
              try go_simp
              refine wpAnyH_take (i := 3) (v := ?_) rfl (by kernel_rfl) (by kernel_rfl) (by kernel_rfl) (fun _ _ _ h => h) (Or.inl ⟨by rfl, ?_⟩) hHeld ?_
              rotate_left
              · intro wS hSw; obtain ⟨hS0, hS1⟩ := hSw; go_simp; try with_reducible rfl
              try go_simp
              refine wpAnyH_take (i := 4) (v := ?_) rfl (by kernel_rfl) (by kernel_rfl) (by kernel_rfl) (fun _ _ _ h => h) (Or.inl ⟨by rfl, ?_⟩) hHeld ?_
              rotate_left
              · intro wS hSw; obtain ⟨hS0, hS1⟩ := hSw; go_simp; try with_reducible rfl
              try go_simp
              refine wpAnyH_take (i := 5) (v := ?_) rfl (by kernel_rfl) (by kernel_rfl) (by kernel_rfl) (fun _ _ _ h => h) (Or.inl ⟨by rfl, ?_⟩) hHeld ?_
              rotate_left
              · intro wS hSw; obtain ⟨hS0, hS1⟩ := hSw; go_simp; try with_reducible rfl
              try go_simp
              refine wpAnyH_take (i := 6) (v := ?_) rfl (by kernel_rfl) (by kernel_rfl) (by kernel_rfl) (fun _ _ _ h => h) (Or.inl ⟨by rfl, ?_⟩) hHeld ?_
              rotate_left
              · intro wS hSw; obtain ⟨hS0, hS1⟩ := hSw; go_simp; try with_reducible rfl
              try go_simp
              refine wpAnyH_take (i := 7) (v := ?_) rfl (by kernel_rfl) (by kernel_rfl) (by kernel_rfl) (fun _ _ _ h => h) (Or.inl ⟨by rfl, ?_⟩) hHeld ?_
              rotate_left
              · intro wS hSw; obtain ⟨hS0, hS1⟩ := hSw; go_simp; try with_reducible rfl
              try go_simp
              refine wpAnyH_take (i := 8) (v := ?_) rfl (by kernel_rfl) (by kernel_rfl) (by kernel_rfl) (fun _ _ _ h => h) (Or.inl ⟨by rfl, ?_⟩) hHeld ?_
              rotate_left
              · intro wS hSw; obtain ⟨hS0, hS1⟩ := hSw; go_simp; try with_reducible rfl
              try go_simp
              refine wpAnyH_take (i := 9) (v := ?_) rfl (by kernel_rfl) (by kernel_rfl) (by kernel_rfl) (fun _ _ _ h => h) (Or.inl ⟨by rfl, ?_⟩) hHeld ?_
              rotate_left
              · intro wS hSw; obtain ⟨hS0, hS1⟩ := hSw; go_simp; try with_reducible rfl
              try go_simp
              refine wpAnyH_done (by kernel_rfl) ?_ _
              have hb3 : Below V2.heap.size V2 V2.drew := below_drawn (Below.refl _ _)
              have hs3 := HS2.out.below hb3
              have hk3 := HK2.out.below hb3
              have ht3 := HTX2.out.below hb3
              obtain ⟨V3, hV3⟩ : ∃ V3, V2.drew = V3 := ⟨_, rfl⟩
              rw [hV3] at hs3 hk3 ht3 ⊢
              have c7 := hk3.cell 7 rfl
              have f7 := hk3.frozen ⟨pk, 7, none⟩ rfl
              have c14 := hs3.hq.cell 14 rfl
              have f14 := hs3.hq.frozen ⟨w.heap.size, 14, none⟩ rfl
              have zk3 := hk3.lt
              have HS3 := Lib.hid hs3
              have HK3 := Lib.hid hk3
              have HTX3 := Lib.hid ht3
              clear hs3 hk3 ht3 hb3 hV3 HS2 HK2 HTX2 HRX2
              rw [HMK.out] at c7
              have HS4 := Lib.hid (RSt.other (HS3.out.seed s1) (grown_set (V3.setCell ⟨w.heap.size, 14, none⟩ (.int .u64 (s1 : Int))) ⟨pk, 7, none⟩ (.bool true)) zq0 HAP.out)
              have htx4 := HTX3.out.kept (grown_set V3 ⟨w.heap.size, 14, none⟩ (.int .u64 (s1 : Int))) (fun ad e => by rw [← hb'] at e; split at e <;> (injection e with e; subst e; exact hgx6))
              have HTX4 := Lib.hid (htx4.kept (grown_set (V3.setCell ⟨w.heap.size, 14, none⟩ (.int .u64 (s1 : Int))) ⟨pk, 7, none⟩ (.bool true)) (fun ad e => by rw [← hb'] at e; split at e <;> (injection e with e; subst e; exact hgp)))
              clear htx4
              have HK4 := Lib.hid ((HK3.out.kept (grown_set V3 ⟨w.heap.size, 14, none⟩ (.int .u64 (s1 : Int))) (fun e => by injection e with e; simp only at e; omega)).set 7 (.bool true))
              go_wp2_with fail
              refine (HRB.out _).mono ?_
              rintro e w4 ⟨rfl, rfl⟩
              go_wp2_with (first | (refine wpList_copy_new rfl (.tmp 173) (.tmp 175) rfl rfl rfl (HTX4.out.below (by exact (by repeat (first | exact Below.refl _ _ | refine below_set ?_ (by first | omega | (simp; done) | (simp; omega)) _ | refine below_drawnN ?_ _ | refine below_drawn ?_ | refine below_new ?_ _)))) (by omega) ?_; intro a4 d4 V5 hown hb5; have hB5 : Below ((V3.setCell ⟨w.heap.size, 14, none⟩ (.int .u64 (s1 : Int))).setCell ⟨pk, 7, none⟩ (.bool true)).heap.size ((V3.setCell ⟨w.heap.size, 14, none⟩ (.int .u64 (s1 : Int))).setCell ⟨pk, 7, none⟩ (.bool true)) V5 := below_on (by exact (by repeat (first | exact Below.refl _ _ | refine below_set ?_ (by first | omega | (simp; done) | (simp; omega)) _ | refine below_drawnN ?_ _ | refine below_drawn ?_ | refine below_new ?_ _))) hb5; have HS5 := Lib.hid ((HS4.out.below hB5).list1 (hown.mono (base' := w.heap.size + 3) (by simp; omega))); have HK5 := Lib.hid (HK4.out.below hB5); clear hB5 hb5 hown))
              have hs4 := HS5.out
              have hk4 := HK5.out
              obtain ⟨V4, rfl⟩ : ∃ V4, V4 = V5 := ⟨_, rfl⟩
              have HS4 := Lib.hid hs4
              have HK4 := Lib.hid hk4
              have hz4 := hs4.hp.lt
              clear hs4 hk4
              refine wp_region_held_drew (S := (fun V => V.rangeAt w.heap.size 0 (dqList A B room (some ⟨ab, ao, none⟩) lc 0 v7 s1) ∧ V.rangeAt (pk) 0 (pktList { x.p with marked := true }))) (by kernel_rfl) ?_ (fun hHeld => ?_)
              · exact ⟨(HS4.out.hq.below (below_drawn (Below.refl _ _))).range, (HK4.out.below (below_drawn (Below.refl _ _))).range⟩
              refine wpAnyH_take (i := 0) (v := (.agg (dqList A B room (some ⟨ab, ao, none⟩) lc 0 v7 s1).toArray)) rfl (by kernel_rfl) (by kernel_rfl) (by kernel_rfl) (fun _ _ _ h => h) (yieldsIf_load_mid (by rfl) 28 _ rfl w.heap.size 0 rfl (dqList A B room (some ⟨ab, ao, none⟩) lc 0 v7 s1) _ (fun _ h => h.1) Tryd.underlying28 rfl (by kernel_rfl)) hHeld ?_
              try go_simp
              refine wpAnyH_take (i := 6) (v := (.agg (pktList { x.p with marked := true }).toArray)) rfl (by kernel_rfl) (by kernel_rfl) (by kernel_rfl) (fun _ _ _ h => h) (yieldsIf_load_mid (by rfl) 30 _ rfl (pk) 0 rfl (pktList { x.p with marked := true }) _ (fun _ h => h.2) Tryd.underlying30 rfl (by kernel_rfl)) hHeld ?_
              try go_simp
              refine wpAnyH_take (i := 1) (v := ?_) rfl (by kernel_rfl) (by kernel_rfl) (by kernel_rfl) (fun _ _ _ h => h) (Or.inl ⟨by rfl, ?_⟩) hHeld ?_
              rotate_left
              · intro wS hSw; obtain ⟨hS0, hS1⟩ := hSw; go_simp; try with_reducible rfl
              try go_simp
              refine wpAnyH_take (i := 2) (v := ?_) rfl (by kernel_rfl) (by kernel_rfl) (by kernel_rfl) (fun _ _ _ h => h) (Or.inl ⟨by rfl, ?_⟩) hHeld ?_
              rotate_left
              · intro wS hSw; obtain ⟨hS0, hS1⟩ := hSw; go_simp; try with_reducible rfl
              try go_simp
              refine wpAnyH_take (i := 4) (v := ?_) rfl (by kernel_rfl) (by kernel_rfl) (by kernel_rfl) (fun _ _ _ h => h) (Or.inl ⟨by rfl, ?_⟩) hHeld ?_
              rotate_left
              · intro wS hSw; obtain ⟨hS0, hS1⟩ := hSw; go_simp; try with_reducible rfl
              try go_simp
              refine wpAnyH_take (i := 7) (v := ?_) rfl (by kernel_rfl) (by kernel_rfl) (by kernel_rfl) (fun _ _ _ h => h) (Or.inl ⟨by rfl, ?_⟩) hHeld ?_
              rotate_left
              · intro wS hSw; obtain ⟨hS0, hS1⟩ := hSw; go_simp; try with_reducible rfl
              try go_simp
              refine wpAnyH_ready (rs := [3]) (by kernel_rfl) (by simp) ?_
              refine AllReadyH.cons rfl (fun K hK => ?_) AllReadyH.nil
              go_simp
              have hA : Below V4.heap.size V4 (V4.alloc (.cells ([(.slice a4 (n1 - 1) d4), (.slice a3 0 d3)] : List Value).toArray 49)).drew := below_drawn (below_new (Below.refl _ _) _)
              have hhd := (Blk.new V4 ([(.slice a4 (n1 - 1) d4), (.slice a3 0 d3)] : List Value).toArray 49).below (below_drawn (Below.refl _ _))
              obtain ⟨hd, ehd⟩ : ∃ z, V4.heap.size = z := ⟨_, rfl⟩
              rw [ehd] at hhd ⊢
              have lhd : w.heap.size + 2 < hd := by omega
              clear ehd
              refine hK.out _ _ ?_ (fun hHeld => ?_)
              · exact ⟨rangeAt_below hHeld.1 (below_new (Below.refl _ _) _), rangeAt_below hHeld.2 (below_new (Below.refl _ _) _)⟩
              clear hK K
              try go_simp
              refine wpAnyH_ready (rs := [5]) (by kernel_rfl) (by simp) ?_
              refine AllReadyH.cons rfl (fun K hK => ?_) AllReadyH.nil
              go_simp
              refine (with_any 6 A B 0 room (some ⟨ab, ao, none⟩) 2 lc 0 0 0 0 0 0 0 v7 s1 (some ⟨hd, 0, none⟩) 2 2 now _).mono ?_
              rintro e W5 ⟨rfl, hbc⟩
              have hA := below_on hA hbc
              have hhd := hhd.below hbc
              have hs5 := HS4.out.below hA
              refine hK.out _ _ ?_ (fun hHeld => ?_)
              · exact ⟨rangeAt_below hHeld.1 hbc, rangeAt_below hHeld.2 hbc⟩
              clear hK K
              try go_simp
              refine wpAnyH_ready (rs := [8]) (by kernel_rfl) (by simp) ?_
              refine AllReadyH.cons rfl (fun K hK => ?_) AllReadyH.nil
              refine ready_store_blk (by rfl) _ 28 _ _ rfl (w.heap.size + 1) zeroDQ (dqList A B room (some ⟨hd, 0, none⟩) 2 0 now s1) rfl rfl hs5.hz (by kernel_rfl) rfl (dqList_one _ _ _ _ _ _ _ _) ?_
              intro V6 hq6 hg6
              have hp6 := hs5.hp.kept hg6 (fun e => by injection e with e; omega)
              refine hK.out _ _ ?_ (fun hHeld => ?_)
              · exact ⟨rangeAt_kept hHeld.1 hg6 (fun e => by injection e with e; omega), rangeAt_kept hHeld.2 hg6 (fun e => by injection e with e; omega)⟩
              clear hK K
              try go_simp
              refine wpAnyH_ready (rs := [9]) (by kernel_rfl) (by simp) ?_
              refine AllReadyH.cons rfl (fun K hK => ?_) AllReadyH.nil
              refine ready_store_blk (by rfl) _ 30 _ _ rfl (w.heap.size + 1 + 1) zeroP (pktList { x.p with marked := true }) rfl rfl hp6 (by kernel_rfl) rfl (pktList_one _) ?_
              intro V7 hp7 hg7
              refine hK.out _ _ ?_ (fun hHeld => ?_)
              · exact ⟨rangeAt_kept hHeld.1 hg7 (fun e => by injection e with e; omega), rangeAt_kept hHeld.2 hg7 (fun e => by injection e with e; omega)⟩
              clear hK K
              try go_simp
              refine wpAnyH_take (i := 10) (v := ?_) rfl (by kernel_rfl) (by kernel_rfl) (by kernel_rfl) (fun _ _ _ h => h) (Or.inl ⟨by rfl, ?_⟩) hHeld ?_
              rotate_left
              · intro wS hSw; obtain ⟨hS0, hS1⟩ := hSw; go_simp; try with_reducible rfl
              try go_simp
              refine wpAnyH_take (i := 11) (v := ?_) rfl (by kernel_rfl) (by kernel_rfl) (by kernel_rfl) (fun _ _ _ h => h) (Or.inl ⟨by rfl, ?_⟩) hHeld ?_
              rotate_left
              · intro wS hSw; obtain ⟨hS0, hS1⟩ := hSw; go_simp; try with_reducible rfl
              try go_simp
              refine wpAnyH_take (i := 12) (v := ?_) rfl (by kernel_rfl) (by kernel_rfl) (by kernel_rfl) (fun _ _ _ h => h) (Or.inl ⟨by rfl, ?_⟩) hHeld ?_
              rotate_left
              · intro wS hSw; obtain ⟨hS0, hS1⟩ := hSw; go_simp; try with_reducible rfl
              try go_simp
              refine wpAnyH_done (by kernel_rfl) ?_ _
              go_wp2
              obtain ⟨hB, hQ, hR⟩ := rt_end (row := 0) hs5 hg6 hg7 hhd lhd (HOK.out.move h0 h1 (by omega) (by omega) (Or.inr rfl) (Or.inl rfl))
              refine bodyPost_ret (results_cc111 Tryd.results15 rfl rfl (run_loadVar_mid _ (w.heap.size + 1) 0 28 (dqList A B room (some ⟨hd, 0, none⟩) 2 0 now s1) _ (hq6.kept hg7 (fun e => by injection e with e; omega)).range Tryd.underlying28 rfl (by kernel_rfl)) (run_loadVar_mid _ (w.heap.size + 1 + 1) 0 30 (pktList { x.p with marked := true }) _ hp7.range Tryd.underlying30 rfl (by kernel_rfl))) rfl ?_
              rw [HTK.out]
              exact ⟨hd, 0, 2, a4, d4, a3, d3, da, dc, rfl, hB, by rw [hlx]; exact hQ, hR⟩
          | false =>
            skip
            obtain ⟨gx, ox, rfl, hrx⟩ := HST.out.ha.rd.at0
            have hgx : w.heap.size + 3 ≤ gx ∧ gx < wr.heap.size := by
              obtain ⟨g', e', h4, h5⟩ := HST.out.ha.head (by omega)
              injection e' with e'
              injection e' with e1 e2
              subst e1
              exact ⟨h4, h5⟩
            have hsx := (ok_since HOK.out).1 x xt rfl
            obtain ⟨zx, hzx⟩ : ∃ z, x.since = z := ⟨_, rfl⟩
            have c8x : wr.cell? ⟨gx, ox + 8, none⟩ = some (.int .i64 zx) := hzx ▸ hrx 8 _ rfl
            rw [hzx] at hsx
            have e1x : IntKind.i64.wrap (now - zx) = now - zx := by rw [IntKind.wrap_i64]; omega
            have dz : ((n1 : Int) == 0) = false := by simp; omega
            have hgx6 : some gx ≠ (some w.heap.size : Option Nat) := fun e => by injection e with e; omega
            have HRX := Lib.hid hrx
            have HCX := Lib.hid c8x
            clear hrx c8x
            obtain ⟨b', hb'⟩ : ∃ b', (if d1' = 1 then some (⟨gx, ox, none⟩ : Addr) else some ⟨gx, ox + 9, none⟩) = b' := ⟨_, rfl⟩
            have htl := HST.out.ha.rd.tl HST.out.ha.cap
            rw [hb'] at htl
            have HTLX := Lib.hid htl
            clear htl
            have hx1' : (1 : Int) ≤ n1 := by omega
            have hx2' : 1 ≤ n1 := by omega
            have hx3' : 0 < n1 := by omega
            have hx4' : (0 : Int) < n1 := by omega
            have hx5 : n1 ≤ 500 := by have := HOK.out.short.1; omega
            have hlx : xt.length = n1 - 1 := by simp only [List.length_cons] at hl1; omega
            rw [hzx] at hA
            obtain ⟨bm, hbm⟩ : ∃ b, decide (Du.rnd s' < 0) = b := ⟨_, rfl⟩
            have htk : Du.take A B now (x :: xt) ys v0 s [] = ⟨xt, [], 0, Rand.nextSeed s', some { x.p with marked := bm }, drops⟩ := HTK.out.trans (by rw [Du.take, if_neg (by rw [hzx]; omega), mark_other hmk]; simp only [hbm])
            have HMK := Lib.hid hmk
            clear hmk
            have hrb := fun V => rb_any s' V
            generalize Rand.nextSeed s' = s1 at hrb htk
            as_aux_lemma =>
              have HRB := Lib.hid hrb
              clear hrb
              have HTK := Lib.hid htk
              clear htk
              have dA : decide (A ≤ now - zx) = false := decide_eq_false hA
              have c6 := HST.out.hq.cell 6 rfl
              have f6 := HST.out.hq.frozen ⟨w.heap.size, 6, none⟩ rfl
              have HS1 := Lib.hid ((HST.out.row (row + 1)).row 0)
              have hG1 : wr.grownBy ((wr.setCell ⟨w.heap.size, 6, none⟩ (.int .i64 (row + 1))).setCell ⟨w.heap.size, 6, none⟩ (.int .i64 0)) (some w.heap.size) := grown_trans (grown_set wr ⟨w.heap.size, 6, none⟩ _) (grown_set _ ⟨w.heap.size, 6, none⟩ _)
              have HRX1 := Lib.hid (rangeAt_kept HRX.out hG1 hgx6)
              have HTX1 := Lib.hid (HTLX.out.kept hG1 (fun ad e => by
                rcases Nat.eq_zero_or_pos (n1 - 1) with h | h
                · rw [← hb'] at e; split at e <;> (injection e with e; subst e; exact hgx6)
                · rw [← hb'] at e; split at e <;> (injection e with e; subst e; exact hgx6)))
              have c6' : ∀ v, (wr.setCell ⟨w.heap.size, 6, none⟩ v).frozen? ⟨w.heap.size, 6, none⟩ = false := fun v => ((HST.out.hq.set 6 v).frozen ⟨w.heap.size, 6, none⟩ rfl)
              go_upto_region 25 with fail
              have hb0 : Below ((wr.setCell ⟨w.heap.size, 6, none⟩ (.int .i64 (row + 1))).setCell ⟨w.heap.size, 6, none⟩ (.int .i64 0)).heap.size ((wr.setCell ⟨w.heap.size, 6, none⟩ (.int .i64 (row + 1))).setCell ⟨w.heap.size, 6, none⟩ (.int .i64 0)) ((wr.setCell ⟨w.heap.size, 6, none⟩ (.int .i64 (row + 1))).setCell ⟨w.heap.size, 6, none⟩ (.int .i64 0)) := Below.refl _ _
              have hs0 := HS1.out.below hb0
              have hx0' := rangeAt_below HRX1.out hb0
              have ht0' := HTX1.out.below hb0
              obtain ⟨V0, hV0⟩ : ∃ V0, ((wr.setCell ⟨w.heap.size, 6, none⟩ (.int .i64 (row + 1))).setCell ⟨w.heap.size, 6, none⟩ (.int .i64 0)) = V0 := ⟨_, rfl⟩
              rw [hV0] at hs0 hx0' ht0'
              rw [hV0]
              have HS0 := Lib.hid hs0
              have HRX0 := Lib.hid hx0'
              have HTX0 := Lib.hid ht0'
              have zq0 := hs0.hp.lt
              clear hs0 hx0' ht0' hV0 hb0 hG1 c6 f6
              go_wp2_with (first | (refine wpList_load_mid rfl 30 (.tmp 142) rfl gx ox (by first | rfl | exact congrArg (fun x => Value.pointer (some x)) (Addr.add_mid _ _ _)) (pktList x.p) _ (item_pkt (rangeAt_below HRX0.out (by exact (by repeat (first | exact Below.refl _ _ | refine below_set ?_ (by first | omega | (simp; done) | (simp; omega)) _ | refine below_drawnN ?_ _ | refine below_drawn ?_ | refine below_new ?_ _))))) Tryd.underlying30 rfl (by kernel_rfl) ?_) | (refine wpList_store_at rfl 30 (.tmp 19) (.tmp 143) rfl _ _ (pktList x.p).toArray rfl (by first | rfl | simp only) rfl (by kernel_rfl) rfl rfl ?_))
              obtain ⟨V2, hV2⟩ : ∃ V2, V0.alloc (.cells (pktList x.p).toArray 30) = V2 := ⟨_, rfl⟩
              rw [hV2]
              have hb2 : Below V0.heap.size V0 V2 := by rw [← hV2]; exact below_new (Below.refl _ _) _
              have hap := HS0.out.apart
              have hk2 : Blk V2 V0.heap.size (pktList x.p) := by rw [← hV2]; exact Blk.new _ _ _
              have HS2 := Lib.hid (HS0.out.below hb2)
              have HRX2 := Lib.hid (rangeAt_below HRX0.out hb2)
              have HTX2 := Lib.hid (HTX0.out.below hb2)
              obtain ⟨pk, epk⟩ : ∃ z, V0.heap.size = z := ⟨_, rfl⟩
              rw [epk] at hk2 zq0 hap ⊢
              have hgp : some gx ≠ some pk := fun e => hap.1 ⟨gx, ox, none⟩ rfl hx3' (by injection e)
              have HAP := Lib.hid hap
              have HK2 := Lib.hid hk2
              have zk2 := hk2.lt
              clear hV2 hb2 hk2 epk hap
              refine wp_region_held_drew (S := (fun V => V.cell? ⟨w.heap.size, 1, none⟩ = some (.int .i64 A) ∧ V.cell? ⟨gx, ox + 8, none⟩ = some (.int .i64 zx))) (by kernel_rfl) ?_ (fun hHeld => ?_)
              · exact ⟨below_cell_of (below_drawn (Below.refl _ _)) (HS2.out.hq.cell 1 rfl), below_cell_of (below_drawn (Below.refl _ _)) (hzx ▸ HRX2.out 8 _ rfl)⟩
              refine wpAnyH_take (i := 0) (v := ?_) rfl (by kernel_rfl) (by kernel_rfl) (by kernel_rfl) (fun _ _ _ h => h) (Or.inl ⟨by rfl, ?_⟩) hHeld ?_
              rotate_left
              · intro wS hSw; obtain ⟨hS0, hS1⟩ := hSw; go_simp; try with_reducible rfl
              try go_simp
              refine wpAnyH_take (i := 1) (v := ?_) rfl (by kernel_rfl) (by kernel_rfl) (by kernel_rfl) (fun _ _ _ h => h) (Or.inl ⟨by rfl, ?_⟩) hHeld ?_
              rotate_left
              · intro wS hSw; obtain ⟨hS0, hS1⟩ := hSw; go_simp; try with_reducible rfl
              try go_simp
              refine wpAnyH_take (i := 2) (v := ?_) rfl (by kernel_rfl) (by kernel_rfl) (by kernel_rfl) (fun _ _ _ h => h) (Or.inl ⟨by rfl, ?_⟩) hHeld ?_
              rotate_left
              · intro wS hSw; obtain ⟨hS0, hS1⟩ := hSw; go_simp; try with_reducible rfl
              try go_simp
              refine wpAnyH_take (i := 3) (v := ?_) rfl (by kernel_rfl) (by kernel_rfl) (by kernel_rfl) (fun _ _ _ h => h) (Or.inl ⟨by rfl, ?_⟩) hHeld ?_
              rotate_left
              · intro wS hSw; obtain ⟨hS0, hS1⟩ := hSw; go_simp; try with_reducible rfl
              try go_simp
              refine wpAnyH_take (i := 4) (v := ?_) rfl (by kernel_rfl) (by kernel_rfl) (by kernel_rfl) (fun _ _ _ h => h) (Or.inl ⟨by rfl, ?_⟩) hHeld ?_
              rotate_left
              · intro wS hSw; obtain ⟨hS0, hS1⟩ := hSw; go_simp; try with_reducible rfl
              try go_simp
              refine wpAnyH_take (i := 5) (v := ?_) rfl (by kernel_rfl) (by kernel_rfl) (by kernel_rfl) (fun _ _ _ h => h) (Or.inl ⟨by rfl, ?_⟩) hHeld ?_
              rotate_left
              · intro wS hSw; obtain ⟨hS0, hS1⟩ := hSw; go_simp; try with_reducible rfl
              try go_simp
              refine wpAnyH_take (i := 6) (v := ?_) rfl (by kernel_rfl) (by kernel_rfl) (by kernel_rfl) (fun _ _ _ h => h) (Or.inl ⟨by rfl, ?_⟩) hHeld ?_
              rotate_left
              · intro wS hSw; obtain ⟨hS0, hS1⟩ := hSw; go_simp; try with_reducible rfl
              try go_simp
              refine wpAnyH_take (i := 7) (v := ?_) rfl (by kernel_rfl) (by kernel_rfl) (by kernel_rfl) (fun _ _ _ h => h) (Or.inl ⟨by rfl, ?_⟩) hHeld ?_
              rotate_left
              · intro wS hSw; obtain ⟨hS0, hS1⟩ := hSw; go_simp; try with_reducible rfl
              try go_simp
              refine wpAnyH_take (i := 8) (v := ?_) rfl (by kernel_rfl) (by kernel_rfl) (by kernel_rfl) (fun _ _ _ h => h) (Or.inl ⟨by rfl, ?_⟩) hHeld ?_
              rotate_left
              · intro wS hSw; obtain ⟨hS0, hS1⟩ := hSw; go_simp; try with_reducible rfl
              try go_simp
              refine wpAnyH_take (i := 9) (v := ?_) rfl (by kernel_rfl) (by kernel_rfl) (by kernel_rfl) (fun _ _ _ h => h) (Or.inl ⟨by rfl, ?_⟩) hHeld ?_
              rotate_left
              · intro wS hSw; obtain ⟨hS0, hS1⟩ := hSw; go_simp; try with_reducible rfl
              try go_simp
              refine wpAnyH_done (by kernel_rfl) ?_ _
              have hb3 : Below V2.heap.size V2 V2.drew := below_drawn (Below.refl _ _)
              have hs3 := HS2.out.below hb3
              have hk3 := HK2.out.below hb3
              have ht3 := HTX2.out.below hb3
              obtain ⟨V3, hV3⟩ : ∃ V3, V2.drew = V3 := ⟨_, rfl⟩
              rw [hV3] at hs3 hk3 ht3 ⊢
              have c7 := hk3.cell 7 rfl
              have f7 := hk3.frozen ⟨pk, 7, none⟩ rfl
              have c14 := hs3.hq.cell 14 rfl
              have f14 := hs3.hq.frozen ⟨w.heap.size, 14, none⟩ rfl
              have zk3 := hk3.lt
              have HS3 := Lib.hid hs3
              have HK3 := Lib.hid hk3
              have HTX3 := Lib.hid ht3
              clear hs3 hk3 ht3 hb3 hV3 HS2 HK2 HTX2 HRX2
              rw [HMK.out] at c7
              have hbm' : decide (Du.rnd s' < 0) = bm := hbm
              have HS4 := Lib.hid (RSt.other (HS3.out.seed s1) (grown_set (V3.setCell ⟨w.heap.size, 14, none⟩ (.int .u64 (s1 : Int))) ⟨pk, 7, none⟩ (.bool bm)) zq0 HAP.out)
              have htx4 := HTX3.out.kept (grown_set V3 ⟨w.heap.size, 14, none⟩ (.int .u64 (s1 : Int))) (fun ad e => by rw [← hb'] at e; split at e <;> (injection e with e; subst e; exact hgx6))
              have HTX4 := Lib.hid (htx4.kept (grown_set (V3.setCell ⟨w.heap.size, 14, none⟩ (.int .u64 (s1 : Int))) ⟨pk, 7, none⟩ (.bool bm)) (fun ad e => by rw [← hb'] at e; split at e <;> (injection e with e; subst e; exact hgp)))
              clear htx4
              have HK4 := Lib.hid ((HK3.out.kept (grown_set V3 ⟨w.heap.size, 14, none⟩ (.int .u64 (s1 : Int))) (fun e => by injection e with e; simp only at e; omega)).set 7 (.bool bm))
              go_wp2_with fail
              refine (HRB.out _).mono ?_
              rintro e w4 ⟨rfl, rfl⟩
              go_wp2_with (first | (refine wpList_copy_new rfl (.tmp 173) (.tmp 175) rfl rfl rfl (HTX4.out.below (by exact (by repeat (first | exact Below.refl _ _ | refine below_set ?_ (by first | omega | (simp; done) | (simp; omega)) _ | refine below_drawnN ?_ _ | refine below_drawn ?_ | refine below_new ?_ _)))) (by omega) ?_; intro a4 d4 V5 hown hb5; have hB5 : Below ((V3.setCell ⟨w.heap.size, 14, none⟩ (.int .u64 (s1 : Int))).setCell ⟨pk, 7, none⟩ (.bool bm)).heap.size ((V3.setCell ⟨w.heap.size, 14, none⟩ (.int .u64 (s1 : Int))).setCell ⟨pk, 7, none⟩ (.bool bm)) V5 := below_on (by exact (by repeat (first | exact Below.refl _ _ | refine below_set ?_ (by first | omega | (simp; done) | (simp; omega)) _ | refine below_drawnN ?_ _ | refine below_drawn ?_ | refine below_new ?_ _))) hb5; have HS5 := Lib.hid ((HS4.out.below hB5).list1 (hown.mono (base' := w.heap.size + 3) (by simp; omega))); have HK5 := Lib.hid (HK4.out.below hB5); clear hB5 hb5 hown))
              have hs4 := HS5.out
              have hk4 := HK5.out
              obtain ⟨V4, rfl⟩ : ∃ V4, V4 = V5 := ⟨_, rfl⟩
              have HS4 := Lib.hid hs4
              have HK4 := Lib.hid hk4
              have hz4 := hs4.hp.lt
              clear hs4 hk4
              refine wp_region_held_drew (S := (fun V => V.rangeAt w.heap.size 0 (dqList A B room (some ⟨ab, ao, none⟩) lc 0 v7 s1) ∧ V.rangeAt (pk) 0 (pktList { x.p with marked := bm }))) (by kernel_rfl) ?_ (fun hHeld => ?_)
              · exact ⟨(HS4.out.hq.below (below_drawn (Below.refl _ _))).range, (HK4.out.below (below_drawn (Below.refl _ _))).range⟩
              refine wpAnyH_take (i := 0) (v := (.agg (dqList A B room (some ⟨ab, ao, none⟩) lc 0 v7 s1).toArray)) rfl (by kernel_rfl) (by kernel_rfl) (by kernel_rfl) (fun _ _ _ h => h) (yieldsIf_load_mid (by rfl) 28 _ rfl w.heap.size 0 rfl (dqList A B room (some ⟨ab, ao, none⟩) lc 0 v7 s1) _ (fun _ h => h.1) Tryd.underlying28 rfl (by kernel_rfl)) hHeld ?_
              try go_simp
              refine wpAnyH_take (i := 6) (v := (.agg (pktList { x.p with marked := bm }).toArray)) rfl (by kernel_rfl) (by kernel_rfl) (by kernel_rfl) (fun _ _ _ h => h) (yieldsIf_load_mid (by rfl) 30 _ rfl (pk) 0 rfl (pktList { x.p with marked := bm }) _ (fun _ h => h.2) Tryd.underlying30 rfl (by kernel_rfl)) hHeld ?_
              try go_simp
              refine wpAnyH_take (i := 1) (v := ?_) rfl (by kernel_rfl) (by kernel_rfl) (by kernel_rfl) (fun _ _ _ h => h) (Or.inl ⟨by rfl, ?_⟩) hHeld ?_
              rotate_left
              · intro wS hSw; obtain ⟨hS0, hS1⟩ := hSw; go_simp; try with_reducible rfl
              try go_simp
              refine wpAnyH_take (i := 2) (v := ?_) rfl (by kernel_rfl) (by kernel_rfl) (by kernel_rfl) (fun _ _ _ h => h) (Or.inl ⟨by rfl, ?_⟩) hHeld ?_
              rotate_left
              · intro wS hSw; obtain ⟨hS0, hS1⟩ := hSw; go_simp; try with_reducible rfl
              try go_simp
              refine wpAnyH_take (i := 4) (v := ?_) rfl (by kernel_rfl) (by kernel_rfl) (by kernel_rfl) (fun _ _ _ h => h) (Or.inl ⟨by rfl, ?_⟩) hHeld ?_
              rotate_left
              · intro wS hSw; obtain ⟨hS0, hS1⟩ := hSw; go_simp; try with_reducible rfl
              try go_simp
              refine wpAnyH_take (i := 7) (v := ?_) rfl (by kernel_rfl) (by kernel_rfl) (by kernel_rfl) (fun _ _ _ h => h) (Or.inl ⟨by rfl, ?_⟩) hHeld ?_
              rotate_left
              · intro wS hSw; obtain ⟨hS0, hS1⟩ := hSw; go_simp; try with_reducible rfl
              try go_simp
              refine wpAnyH_ready (rs := [3]) (by kernel_rfl) (by simp) ?_
              refine AllReadyH.cons rfl (fun K hK => ?_) AllReadyH.nil
              go_simp
              have hA : Below V4.heap.size V4 (V4.alloc (.cells ([(.slice a4 (n1 - 1) d4), (.slice a3 0 d3)] : List Value).toArray 49)).drew := below_drawn (below_new (Below.refl _ _) _)
              have hhd := (Blk.new V4 ([(.slice a4 (n1 - 1) d4), (.slice a3 0 d3)] : List Value).toArray 49).below (below_drawn (Below.refl _ _))
              obtain ⟨hd, ehd⟩ : ∃ z, V4.heap.size = z := ⟨_, rfl⟩
              rw [ehd] at hhd ⊢
              have lhd : w.heap.size + 2 < hd := by omega
              clear ehd
              refine hK.out _ _ ?_ (fun hHeld => ?_)
              · exact ⟨rangeAt_below hHeld.1 (below_new (Below.refl _ _) _), rangeAt_below hHeld.2 (below_new (Below.refl _ _) _)⟩
              clear hK K
              try go_simp
              refine wpAnyH_ready (rs := [5]) (by kernel_rfl) (by simp) ?_
              refine AllReadyH.cons rfl (fun K hK => ?_) AllReadyH.nil
              go_simp
              refine (with_any 6 A B 0 room (some ⟨ab, ao, none⟩) 2 lc 0 0 0 0 0 0 0 v7 s1 (some ⟨hd, 0, none⟩) 2 2 now _).mono ?_
              rintro e W5 ⟨rfl, hbc⟩
              have hA := below_on hA hbc
              have hhd := hhd.below hbc
              have hs5 := HS4.out.below hA
              refine hK.out _ _ ?_ (fun hHeld => ?_)
              · exact ⟨rangeAt_below hHeld.1 hbc, rangeAt_below hHeld.2 hbc⟩
              clear hK K
              try go_simp
              refine wpAnyH_ready (rs := [8]) (by kernel_rfl) (by simp) ?_
              refine AllReadyH.cons rfl (fun K hK => ?_) AllReadyH.nil
              refine ready_store_blk (by rfl) _ 28 _ _ rfl (w.heap.size + 1) zeroDQ (dqList A B room (some ⟨hd, 0, none⟩) 2 0 now s1) rfl rfl hs5.hz (by kernel_rfl) rfl (dqList_one _ _ _ _ _ _ _ _) ?_
              intro V6 hq6 hg6
              have hp6 := hs5.hp.kept hg6 (fun e => by injection e with e; omega)
              refine hK.out _ _ ?_ (fun hHeld => ?_)
              · exact ⟨rangeAt_kept hHeld.1 hg6 (fun e => by injection e with e; omega), rangeAt_kept hHeld.2 hg6 (fun e => by injection e with e; omega)⟩
              clear hK K
              try go_simp
              refine wpAnyH_ready (rs := [9]) (by kernel_rfl) (by simp) ?_
              refine AllReadyH.cons rfl (fun K hK => ?_) AllReadyH.nil
              refine ready_store_blk (by rfl) _ 30 _ _ rfl (w.heap.size + 1 + 1) zeroP (pktList { x.p with marked := bm }) rfl rfl hp6 (by kernel_rfl) rfl (pktList_one _) ?_
              intro V7 hp7 hg7
              refine hK.out _ _ ?_ (fun hHeld => ?_)
              · exact ⟨rangeAt_kept hHeld.1 hg7 (fun e => by injection e with e; omega), rangeAt_kept hHeld.2 hg7 (fun e => by injection e with e; omega)⟩
              clear hK K
              try go_simp
              refine wpAnyH_take (i := 10) (v := ?_) rfl (by kernel_rfl) (by kernel_rfl) (by kernel_rfl) (fun _ _ _ h => h) (Or.inl ⟨by rfl, ?_⟩) hHeld ?_
              rotate_left
              · intro wS hSw; obtain ⟨hS0, hS1⟩ := hSw; go_simp; try with_reducible rfl
              try go_simp
              refine wpAnyH_take (i := 11) (v := ?_) rfl (by kernel_rfl) (by kernel_rfl) (by kernel_rfl) (fun _ _ _ h => h) (Or.inl ⟨by rfl, ?_⟩) hHeld ?_
              rotate_left
              · intro wS hSw; obtain ⟨hS0, hS1⟩ := hSw; go_simp; try with_reducible rfl
              try go_simp
              refine wpAnyH_take (i := 12) (v := ?_) rfl (by kernel_rfl) (by kernel_rfl) (by kernel_rfl) (fun _ _ _ h => h) (Or.inl ⟨by rfl, ?_⟩) hHeld ?_
              rotate_left
              · intro wS hSw; obtain ⟨hS0, hS1⟩ := hSw; go_simp; try with_reducible rfl
              try go_simp
              refine wpAnyH_done (by kernel_rfl) ?_ _
              go_wp2
              obtain ⟨hB, hQ, hR⟩ := rt_end (row := 0) hs5 hg6 hg7 hhd lhd (HOK.out.move h0 h1 (by omega) (by omega) (Or.inr rfl) (Or.inl rfl))
              refine bodyPost_ret (results_cc111 Tryd.results15 rfl rfl (run_loadVar_mid _ (w.heap.size + 1) 0 28 (dqList A B room (some ⟨hd, 0, none⟩) 2 0 now s1) _ (hq6.kept hg7 (fun e => by injection e with e; omega)).range Tryd.underlying28 rfl (by kernel_rfl)) (run_loadVar_mid _ (w.heap.size + 1 + 1) 0 30 (pktList { x.p with marked := bm }) _ hp7.range Tryd.underlying30 rfl (by kernel_rfl))) rfl ?_
              rw [HTK.out]
              exact ⟨hd, 0, 2, a4, d4, a3, d3, da, dc, rfl, hB, by rw [hlx]; exact hQ, hR⟩
      · rw [List.length_cons] at hl3
        by_cases hr15 : row = 15
        · by_cases hdec : Du.press B now (y :: yt) * Du.press B now (y :: yt) / 1000000 ≤ Du.rnd s'
          · skip
            obtain ⟨g, o, rfl, hry⟩ := HST.out.hl.rd.at0
            have hgw : w.heap.size + 3 ≤ g ∧ g < wr.heap.size := by
              obtain ⟨g', e', h4, h5⟩ := HST.out.hl.head (by omega)
              injection e' with e'
              injection e' with e1 e2
              subst e1
              exact ⟨h4, h5⟩
            have dn : decide ((0 : Int) < (n3 : Int)) = true := decide_eq_true (by omega)
            have hsy := (ok_since HOK.out).2 y yt rfl
            have HPM := Lib.hid (press_min (B := B) (now := now) (y := y) (yt := yt))
            obtain ⟨z, hz⟩ : ∃ z, y.since = z := ⟨_, rfl⟩
            have c8 : wr.cell? ⟨g, o + 8, none⟩ = some (.int .i64 z) := hz ▸ hry 8 _ rfl
            rw [hz] at hsy HPM
            have hm := Du.mul_bd b0 b1 (show 0 ≤ now - z by omega) (by omega)
            have e1 : IntKind.i64.wrap (now - z) = now - z := by rw [IntKind.wrap_i64]; omega
            have e2 : IntKind.i64.wrap (B * (now - z)) = B * (now - z) := by
              generalize B * (now - z) = q at hm ⊢
              rw [IntKind.wrap_i64]
              omega
            obtain ⟨k, hk⟩ : ∃ k, Du.press B now (y :: yt) = k := ⟨_, rfl⟩
            rw [hk] at HPM
            have hpm := HPM.out
            have k0 : 0 ≤ k ∧ k ≤ 1000000 := by
              rw [← hpm]
              generalize B * (now - z) = q at hm ⊢
              omega
            have hg8 : some g ≠ (some w.heap.size : Option Nat) := fun e => by injection e with e; omega
            have HRY := Lib.hid hry
            clear hry hz
            have dz : ((n1 : Int) == 0) = false := by simp; omega
            obtain rfl : row = 15 := hr15
            rw [hk] at hdec
            have dge : decide (k * k / 1000000 ≤ Du.rnd s') = true := decide_eq_true hdec
            have htk : Du.take A B now (x :: xt) ys v0 s [] = ⟨(x :: xt), yt, 0, Rand.nextSeed s', some y.p, drops⟩ := HTK.out.trans (by rw [Du.take, if_pos (by omega), hk, if_neg (by omega)])
            have hrb := fun V => rb_any s' V
            generalize Rand.nextSeed s' = s1 at hrb htk
            have HRB := Lib.hid hrb
            clear hrb
            have HTK := Lib.hid htk
            have hkk : 0 ≤ k * k ∧ k * k ≤ 1000000000000 := by
              refine ⟨Int.mul_nonneg k0.1 k0.1, ?_⟩
              have h1 : k * k ≤ 1000000 * k := Int.mul_le_mul_of_nonneg_right k0.2 k0.1
              omega
            have e3 : IntKind.i64.wrap (k * k) = k * k := by
              generalize k * k = q at hkk ⊢
              rw [IntKind.wrap_i64]
              omega
            obtain ⟨a', ha'⟩ : ∃ a', (if d3 = 1 then some (⟨g, o, none⟩ : Addr) else some ⟨g, o + 9, none⟩) = a' := ⟨_, rfl⟩
            have htl := HST.out.hl.rd.tl HST.out.hl.cap
            rw [ha'] at htl
            have HTL := Lib.hid htl
            have hn1' : (1 : Int) ≤ n3 := by omega
            have hn2' : 1 ≤ n3 := by omega
            have c6 := HST.out.hq.cell 6 rfl
            have HK2 := Lib.hid (HST.out.hq.cell 2 rfl)
            have HC8 := Lib.hid c8
            have HHK := Lib.hid hk
            clear hdec htk c8 hk htl
            go_wp2_with fail
            refine wp_region_held_drew (S := (fun V => V.cell? ⟨w.heap.size, 2, none⟩ = some (.int .i64 B) ∧ V.cell? ⟨g, o + 8, none⟩ = some (.int .i64 z))) (by kernel_rfl) ?_ (fun hHeld => ?_)
            · exact ⟨below_cell_of (below_drawn (Below.refl _ _)) HK2.out, below_cell_of (below_drawn (Below.refl _ _)) HC8.out⟩
            refine wpAnyH_take (i := 0) (v := ?_) rfl (by kernel_rfl) (by kernel_rfl) (by kernel_rfl) (fun _ _ _ h => h) (Or.inl ⟨by rfl, ?_⟩) hHeld ?_
            rotate_left
            · intro wS hSw; obtain ⟨hS0, hS1⟩ := hSw; go_simp; try with_reducible rfl
            try go_simp
            refine wpAnyH_take (i := 1) (v := ?_) rfl (by kernel_rfl) (by kernel_rfl) (by kernel_rfl) (fun _ _ _ h => h) (Or.inl ⟨by rfl, ?_⟩) hHeld ?_
            rotate_left
            · intro wS hSw; obtain ⟨hS0, hS1⟩ := hSw; go_simp; try with_reducible rfl
            try go_simp
            refine wpAnyH_take (i := 2) (v := ?_) rfl (by kernel_rfl) (by kernel_rfl) (by kernel_rfl) (fun _ _ _ h => h) (Or.inl ⟨by rfl, ?_⟩) hHeld ?_
            rotate_left
            · intro wS hSw; obtain ⟨hS0, hS1⟩ := hSw; go_simp; try with_reducible rfl
            try go_simp
            refine wpAnyH_take (i := 3) (v := ?_) rfl (by kernel_rfl) (by kernel_rfl) (by kernel_rfl) (fun _ _ _ h => h) (Or.inl ⟨by rfl, ?_⟩) hHeld ?_
            rotate_left
            · intro wS hSw; obtain ⟨hS0, hS1⟩ := hSw; go_simp; try with_reducible rfl
            try go_simp
            refine wpAnyH_take (i := 4) (v := ?_) rfl (by kernel_rfl) (by kernel_rfl) (by kernel_rfl) (fun _ _ _ h => h) (Or.inl ⟨by rfl, ?_⟩) hHeld ?_
            rotate_left
            · intro wS hSw; obtain ⟨hS0, hS1⟩ := hSw; go_simp; try with_reducible rfl
            try go_simp
            refine wpAnyH_take (i := 5) (v := ?_) rfl (by kernel_rfl) (by kernel_rfl) (by kernel_rfl) (fun _ _ _ h => h) (Or.inl ⟨by rfl, ?_⟩) hHeld ?_
            rotate_left
            · intro wS hSw; obtain ⟨hS0, hS1⟩ := hSw; go_simp; try with_reducible rfl
            try go_simp
            refine wpAnyH_take (i := 6) (v := ?_) rfl (by kernel_rfl) (by kernel_rfl) (by kernel_rfl) (fun _ _ _ h => h) (Or.inl ⟨by rfl, ?_⟩) hHeld ?_
            rotate_left
            · intro wS hSw; obtain ⟨hS0, hS1⟩ := hSw; go_simp; try with_reducible rfl
            try go_simp
            refine wpAnyH_take (i := 7) (v := ?_) rfl (by kernel_rfl) (by kernel_rfl) (by kernel_rfl) (fun _ _ _ h => h) (Or.inl ⟨by rfl, ?_⟩) hHeld ?_
            rotate_left
            · intro wS hSw; obtain ⟨hS0, hS1⟩ := hSw; go_simp; try with_reducible rfl
            try go_simp
            refine wpAnyH_take (i := 8) (v := ?_) rfl (by kernel_rfl) (by kernel_rfl) (by kernel_rfl) (fun _ _ _ h => h) (Or.inl ⟨by rfl, ?_⟩) hHeld ?_
            rotate_left
            · intro wS hSw; obtain ⟨hS0, hS1⟩ := hSw; go_simp; try with_reducible rfl
            try go_simp
            refine wpAnyH_take (i := 9) (v := ?_) rfl (by kernel_rfl) (by kernel_rfl) (by kernel_rfl) (fun _ _ _ h => h) (Or.inl ⟨by rfl, ?_⟩) hHeld ?_
            rotate_left
            · intro wS hSw; obtain ⟨hS0, hS1⟩ := hSw; go_simp; try with_reducible rfl
            try go_simp
            refine wpAnyH_take (i := 10) (v := ?_) rfl (by kernel_rfl) (by kernel_rfl) (by kernel_rfl) (fun _ _ _ h => h) (Or.inl ⟨by rfl, ?_⟩) hHeld ?_
            rotate_left
            · intro wS hSw; obtain ⟨hS0, hS1⟩ := hSw; go_simp; try with_reducible rfl
            try go_simp
            refine wpAnyH_take (i := 11) (v := ?_) rfl (by kernel_rfl) (by kernel_rfl) (by kernel_rfl) (fun _ _ _ h => h) (Or.inl ⟨by rfl, ?_⟩) hHeld ?_
            rotate_left
            · intro wS hSw; obtain ⟨hS0, hS1⟩ := hSw; go_simp; try with_reducible rfl
            try go_simp
            refine wpAnyH_done (by kernel_rfl) ?_ _
            obtain ⟨V0, hV0⟩ : ∃ V0, wr.drew = V0 := ⟨_, rfl⟩
            rw [hV0]
            have hB0 : Below wr.heap.size wr V0 := hV0 ▸ below_drawn (Below.refl _ _)
            have HST0 := Lib.hid (HST.out.below hB0)
            have HRY0 := Lib.hid (rangeAt_below HRY.out hB0)
            have HTL0 := Lib.hid (HTL.out.below hB0)
            have c14 := HST0.out.hq.cell 14 rfl
            have zq0 := HST0.out.hp.lt
            clear hV0 hB0 HST HRY HTL HK2 HC8
            go_wp2_with fail
            refine (HRB.out _).mono ?_
            rintro e w4 ⟨rfl, rfl⟩
            go_wp2_with (first | (refine wpList_load_mid rfl 30 (.tmp 77) rfl g o (by first | rfl | exact congrArg (fun x => Value.pointer (some x)) (Addr.add_mid _ _ _)) (pktList y.p) _ (item_pkt (rangeAt_below HRY0.out (by exact (by repeat (first | exact Below.refl _ _ | refine below_set ?_ (by first | omega | (simp; done) | (simp; omega)) _ | refine below_drawnN ?_ _ | refine below_drawn ?_ | refine below_new ?_ _))))) Tryd.underlying30 rfl (by kernel_rfl) ?_) | (refine wpList_store_at rfl 30 (.tmp 17) (.tmp 78) rfl _ _ (pktList y.p).toArray rfl (by simp only) rfl (by kernel_rfl) rfl rfl ?_) | (refine wpList_copy_new rfl (.tmp 79) (.tmp 81) rfl rfl rfl (HTL0.out.below (by exact (by repeat (first | exact Below.refl _ _ | refine below_set ?_ (by first | omega | (simp; done) | (simp; omega)) _ | refine below_drawnN ?_ _ | refine below_drawn ?_ | refine below_new ?_ _)))) (by omega) ?_; intro a4 d4 V2 hown hb2; have hB2 : Below V0.heap.size V0 V2 := below_on (by exact (by repeat (first | exact Below.refl _ _ | refine below_set ?_ (by first | omega | (simp; done) | (simp; omega)) _ | refine below_drawnN ?_ _ | refine below_drawn ?_ | refine below_new ?_ _))) hb2; have HS2 := Lib.hid ((HST0.out.below hB2).list2 (hown.mono (base' := w.heap.size + 3) (by simp; omega))); have HS3 := Lib.hid ((HS2.out.row 0).seed s1); have hPK : Blk V2 V0.heap.size (pktList y.p) := Blk.below (Blk.below (Blk.new _ (pktList y.p).toArray 30) (below_new (Below.refl _ _) _)) hb2; have HPK := Lib.hid hPK; have HPK3 := Lib.hid ((hPK.kept (grown_set V2 ⟨w.heap.size, 6, none⟩ (.int .i64 0)) (fun e => by injection e with e; simp only at e; omega)).kept (grown_set _ ⟨w.heap.size, 14, none⟩ (.int .u64 (s1 : Int))) (fun e => by injection e with e; simp only at e; omega)); have c6' := HS2.out.hq.cell 6 rfl; have c14' := HS2.out.hq.cell 14 rfl; have f6 := HS2.out.hq.frozen ⟨w.heap.size, 6, none⟩ rfl; have f14 := HS2.out.hq.frozen ⟨w.heap.size, 14, none⟩ rfl; have hs2 := hB2.size; clear hB2 hb2 hown hPK))
            have hs4 := HS3.out
            have hk4 := HPK3.out
            obtain ⟨V4, hV4⟩ : ∃ V4, (V2.setCell ⟨w.heap.size, 6, none⟩ (.int .i64 0)).setCell ⟨w.heap.size, 14, none⟩ (.int .u64 (s1 : Int)) = V4 := ⟨_, rfl⟩
            rw [hV4] at hs4 hk4 ⊢
            have HS4 := Lib.hid hs4
            have HK4 := Lib.hid hk4
            have hz4 := hs4.hp.lt
            clear hs4 hk4 hV4
            refine wp_region_held_drew (S := (fun V => V.rangeAt w.heap.size 0 (dqList A B room (some ⟨ab, ao, none⟩) lc 0 v7 s1) ∧ V.rangeAt (V0.heap.size) 0 (pktList y.p))) (by kernel_rfl) ?_ (fun hHeld => ?_)
            · exact ⟨(HS4.out.hq.below (below_drawn (Below.refl _ _))).range, (HK4.out.below (below_drawn (Below.refl _ _))).range⟩
            refine wpAnyH_take (i := 0) (v := (.agg (dqList A B room (some ⟨ab, ao, none⟩) lc 0 v7 s1).toArray)) rfl (by kernel_rfl) (by kernel_rfl) (by kernel_rfl) (fun _ _ _ h => h) (yieldsIf_load_mid (by rfl) 28 _ rfl w.heap.size 0 rfl (dqList A B room (some ⟨ab, ao, none⟩) lc 0 v7 s1) _ (fun _ h => h.1) Tryd.underlying28 rfl (by kernel_rfl)) hHeld ?_
            try go_simp
            refine wpAnyH_take (i := 6) (v := (.agg (pktList y.p).toArray)) rfl (by kernel_rfl) (by kernel_rfl) (by kernel_rfl) (fun _ _ _ h => h) (yieldsIf_load_mid (by rfl) 30 _ rfl (V0.heap.size) 0 rfl (pktList y.p) _ (fun _ h => h.2) Tryd.underlying30 rfl (by kernel_rfl)) hHeld ?_
            try go_simp
            refine wpAnyH_take (i := 1) (v := ?_) rfl (by kernel_rfl) (by kernel_rfl) (by kernel_rfl) (fun _ _ _ h => h) (Or.inl ⟨by rfl, ?_⟩) hHeld ?_
            rotate_left
            · intro wS hSw; obtain ⟨hS0, hS1⟩ := hSw; go_simp; try with_reducible rfl
            try go_simp
            refine wpAnyH_take (i := 2) (v := ?_) rfl (by kernel_rfl) (by kernel_rfl) (by kernel_rfl) (fun _ _ _ h => h) (Or.inl ⟨by rfl, ?_⟩) hHeld ?_
            rotate_left
            · intro wS hSw; obtain ⟨hS0, hS1⟩ := hSw; go_simp; try with_reducible rfl
            try go_simp
            refine wpAnyH_take (i := 4) (v := ?_) rfl (by kernel_rfl) (by kernel_rfl) (by kernel_rfl) (fun _ _ _ h => h) (Or.inl ⟨by rfl, ?_⟩) hHeld ?_
            rotate_left
            · intro wS hSw; obtain ⟨hS0, hS1⟩ := hSw; go_simp; try with_reducible rfl
            try go_simp
            refine wpAnyH_take (i := 7) (v := ?_) rfl (by kernel_rfl) (by kernel_rfl) (by kernel_rfl) (fun _ _ _ h => h) (Or.inl ⟨by rfl, ?_⟩) hHeld ?_
            rotate_left
            · intro wS hSw; obtain ⟨hS0, hS1⟩ := hSw; go_simp; try with_reducible rfl
            try go_simp
            refine wpAnyH_ready (rs := [3]) (by kernel_rfl) (by simp) ?_
            refine AllReadyH.cons rfl (fun K hK => ?_) AllReadyH.nil
            go_simp
            have hA : Below V4.heap.size V4 (V4.alloc (.cells ([(.slice a1' n1 d1'), (.slice a4 (n3 - 1) d4)] : List Value).toArray 49)).drew := below_drawn (below_new (Below.refl _ _) _)
            have hhd := (Blk.new V4 ([(.slice a1' n1 d1'), (.slice a4 (n3 - 1) d4)] : List Value).toArray 49).below (below_drawn (Below.refl _ _))
            obtain ⟨hd, ehd⟩ : ∃ z, V4.heap.size = z := ⟨_, rfl⟩
            rw [ehd] at hhd ⊢
            have lhd : w.heap.size + 2 < hd := by omega
            clear ehd
            refine hK.out _ _ ?_ (fun hHeld => ?_)
            · exact ⟨rangeAt_below hHeld.1 (below_new (Below.refl _ _) _), rangeAt_below hHeld.2 (below_new (Below.refl _ _) _)⟩
            clear hK K
            try go_simp
            refine wpAnyH_ready (rs := [5]) (by kernel_rfl) (by simp) ?_
            refine AllReadyH.cons rfl (fun K hK => ?_) AllReadyH.nil
            go_simp
            refine (with_any 6 A B 0 room (some ⟨ab, ao, none⟩) 2 lc 0 0 0 0 0 0 0 v7 s1 (some ⟨hd, 0, none⟩) 2 2 now _).mono ?_
            rintro e W5 ⟨rfl, hbc⟩
            have hA := below_on hA hbc
            have hhd := hhd.below hbc
            have hs5 := HS4.out.below hA
            refine hK.out _ _ ?_ (fun hHeld => ?_)
            · exact ⟨rangeAt_below hHeld.1 hbc, rangeAt_below hHeld.2 hbc⟩
            clear hK K
            try go_simp
            refine wpAnyH_ready (rs := [8]) (by kernel_rfl) (by simp) ?_
            refine AllReadyH.cons rfl (fun K hK => ?_) AllReadyH.nil
            refine ready_store_blk (by rfl) _ 28 _ _ rfl (w.heap.size + 1) zeroDQ (dqList A B room (some ⟨hd, 0, none⟩) 2 0 now s1) rfl rfl hs5.hz (by kernel_rfl) rfl (dqList_one _ _ _ _ _ _ _ _) ?_
            intro V6 hq6 hg6
            have hp6 := hs5.hp.kept hg6 (fun e => by injection e with e; omega)
            refine hK.out _ _ ?_ (fun hHeld => ?_)
            · exact ⟨rangeAt_kept hHeld.1 hg6 (fun e => by injection e with e; omega), rangeAt_kept hHeld.2 hg6 (fun e => by injection e with e; omega)⟩
            clear hK K
            try go_simp
            refine wpAnyH_ready (rs := [9]) (by kernel_rfl) (by simp) ?_
            refine AllReadyH.cons rfl (fun K hK => ?_) AllReadyH.nil
            refine ready_store_blk (by rfl) _ 30 _ _ rfl (w.heap.size + 1 + 1) zeroP (pktList y.p) rfl rfl hp6 (by kernel_rfl) rfl (pktList_one _) ?_
            intro V7 hp7 hg7
            refine hK.out _ _ ?_ (fun hHeld => ?_)
            · exact ⟨rangeAt_kept hHeld.1 hg7 (fun e => by injection e with e; omega), rangeAt_kept hHeld.2 hg7 (fun e => by injection e with e; omega)⟩
            clear hK K
            try go_simp
            refine wpAnyH_take (i := 10) (v := ?_) rfl (by kernel_rfl) (by kernel_rfl) (by kernel_rfl) (fun _ _ _ h => h) (Or.inl ⟨by rfl, ?_⟩) hHeld ?_
            rotate_left
            · intro wS hSw; obtain ⟨hS0, hS1⟩ := hSw; go_simp; try with_reducible rfl
            try go_simp
            refine wpAnyH_take (i := 11) (v := ?_) rfl (by kernel_rfl) (by kernel_rfl) (by kernel_rfl) (fun _ _ _ h => h) (Or.inl ⟨by rfl, ?_⟩) hHeld ?_
            rotate_left
            · intro wS hSw; obtain ⟨hS0, hS1⟩ := hSw; go_simp; try with_reducible rfl
            try go_simp
            refine wpAnyH_take (i := 12) (v := ?_) rfl (by kernel_rfl) (by kernel_rfl) (by kernel_rfl) (fun _ _ _ h => h) (Or.inl ⟨by rfl, ?_⟩) hHeld ?_
            rotate_left
            · intro wS hSw; obtain ⟨hS0, hS1⟩ := hSw; go_simp; try with_reducible rfl
            try go_simp
            refine wpAnyH_done (by kernel_rfl) ?_ _
            go_wp2
            obtain ⟨hB, hQ, hR⟩ := rt_end (row := 0) hs5 hg6 hg7 hhd lhd (HOK.out.move h0 h1 (by omega) (by omega) (Or.inl rfl) (Or.inr rfl))
            refine bodyPost_ret (results_cc111 Tryd.results15 rfl rfl (run_loadVar_mid _ (w.heap.size + 1) 0 28 (dqList A B room (some ⟨hd, 0, none⟩) 2 0 now s1) _ (hq6.kept hg7 (fun e => by injection e with e; omega)).range Tryd.underlying28 rfl (by kernel_rfl)) (run_loadVar_mid _ (w.heap.size + 1 + 1) 0 30 (pktList y.p) _ hp7.range Tryd.underlying30 rfl (by kernel_rfl))) rfl ?_
            rw [HTK.out]
            exact ⟨hd, 0, 2, a1', d1', a4, d4, da, dc, rfl, hB, by rw [hl1, show yt.length = n3 - 1 by omega]; exact hQ, hR⟩
          · skip
            obtain ⟨g, o, rfl, hry⟩ := HST.out.hl.rd.at0
            have hgw : w.heap.size + 3 ≤ g ∧ g < wr.heap.size := by
              obtain ⟨g', e', h4, h5⟩ := HST.out.hl.head (by omega)
              injection e' with e'
              injection e' with e1 e2
              subst e1
              exact ⟨h4, h5⟩
            have dn : decide ((0 : Int) < (n3 : Int)) = true := decide_eq_true (by omega)
            have hsy := (ok_since HOK.out).2 y yt rfl
            have HPM := Lib.hid (press_min (B := B) (now := now) (y := y) (yt := yt))
            obtain ⟨z, hz⟩ : ∃ z, y.since = z := ⟨_, rfl⟩
            have c8 : wr.cell? ⟨g, o + 8, none⟩ = some (.int .i64 z) := hz ▸ hry 8 _ rfl
            rw [hz] at hsy HPM
            have hm := Du.mul_bd b0 b1 (show 0 ≤ now - z by omega) (by omega)
            have e1 : IntKind.i64.wrap (now - z) = now - z := by rw [IntKind.wrap_i64]; omega
            have e2 : IntKind.i64.wrap (B * (now - z)) = B * (now - z) := by
              generalize B * (now - z) = q at hm ⊢
              rw [IntKind.wrap_i64]
              omega
            obtain ⟨k, hk⟩ : ∃ k, Du.press B now (y :: yt) = k := ⟨_, rfl⟩
            rw [hk] at HPM
            have hpm := HPM.out
            have k0 : 0 ≤ k ∧ k ≤ 1000000 := by
              rw [← hpm]
              generalize B * (now - z) = q at hm ⊢
              omega
            have hg8 : some g ≠ (some w.heap.size : Option Nat) := fun e => by injection e with e; omega
            have HRY := Lib.hid hry
            clear hry hz
            have dz : ((n1 : Int) == 0) = false := by simp; omega
            obtain rfl : row = 15 := hr15
            rw [hk] at hdec
            have dge : decide (k * k / 1000000 ≤ Du.rnd s') = false := decide_eq_false hdec
            have htk : Du.take A B now (x :: xt) ys v0 s [] = Du.take A B now (x :: xt) yt 0 (Rand.nextSeed s') (drops ++ [y.p]) := HTK.out.trans (by rw [Du.take, if_pos (by omega), hk, if_pos (by omega)])
            have hrb := fun V => rb_any s' V
            generalize Rand.nextSeed s' = s1 at hrb htk
            have HRB := Lib.hid hrb
            clear hrb
            have HTK := Lib.hid htk
            have hkk : 0 ≤ k * k ∧ k * k ≤ 1000000000000 := by
              refine ⟨Int.mul_nonneg k0.1 k0.1, ?_⟩
              have h1 : k * k ≤ 1000000 * k := Int.mul_le_mul_of_nonneg_right k0.2 k0.1
              omega
            have e3 : IntKind.i64.wrap (k * k) = k * k := by
              generalize k * k = q at hkk ⊢
              rw [IntKind.wrap_i64]
              omega
            obtain ⟨a', ha'⟩ : ∃ a', (if d3 = 1 then some (⟨g, o, none⟩ : Addr) else some ⟨g, o + 9, none⟩) = a' := ⟨_, rfl⟩
            have htl := HST.out.hl.rd.tl HST.out.hl.cap
            rw [ha'] at htl
            have HTL := Lib.hid htl
            have hn1' : (1 : Int) ≤ n3 := by omega
            have hn2' : 1 ≤ n3 := by omega
            have c6 := HST.out.hq.cell 6 rfl
            have HK2 := Lib.hid (HST.out.hq.cell 2 rfl)
            have HC8 := Lib.hid c8
            have HHK := Lib.hid hk
            clear hdec htk c8 hk htl
            go_wp2_with fail
            refine wp_region_held_drew (S := (fun V => V.cell? ⟨w.heap.size, 2, none⟩ = some (.int .i64 B) ∧ V.cell? ⟨g, o + 8, none⟩ = some (.int .i64 z))) (by kernel_rfl) ?_ (fun hHeld => ?_)
            · exact ⟨below_cell_of (below_drawn (Below.refl _ _)) HK2.out, below_cell_of (below_drawn (Below.refl _ _)) HC8.out⟩
            refine wpAnyH_take (i := 0) (v := ?_) rfl (by kernel_rfl) (by kernel_rfl) (by kernel_rfl) (fun _ _ _ h => h) (Or.inl ⟨by rfl, ?_⟩) hHeld ?_
            rotate_left
            · intro wS hSw; obtain ⟨hS0, hS1⟩ := hSw; go_simp; try with_reducible rfl
            try go_simp
            refine wpAnyH_take (i := 1) (v := ?_) rfl (by kernel_rfl) (by kernel_rfl) (by kernel_rfl) (fun _ _ _ h => h) (Or.inl ⟨by rfl, ?_⟩) hHeld ?_
            rotate_left
            · intro wS hSw; obtain ⟨hS0, hS1⟩ := hSw; go_simp; try with_reducible rfl
            try go_simp
            refine wpAnyH_take (i := 2) (v := ?_) rfl (by kernel_rfl) (by kernel_rfl) (by kernel_rfl) (fun _ _ _ h => h) (Or.inl ⟨by rfl, ?_⟩) hHeld ?_
            rotate_left
            · intro wS hSw; obtain ⟨hS0, hS1⟩ := hSw; go_simp; try with_reducible rfl
            try go_simp
            refine wpAnyH_take (i := 3) (v := ?_) rfl (by kernel_rfl) (by kernel_rfl) (by kernel_rfl) (fun _ _ _ h => h) (Or.inl ⟨by rfl, ?_⟩) hHeld ?_
            rotate_left
            · intro wS hSw; obtain ⟨hS0, hS1⟩ := hSw; go_simp; try with_reducible rfl
            try go_simp
            refine wpAnyH_take (i := 4) (v := ?_) rfl (by kernel_rfl) (by kernel_rfl) (by kernel_rfl) (fun _ _ _ h => h) (Or.inl ⟨by rfl, ?_⟩) hHeld ?_
            rotate_left
            · intro wS hSw; obtain ⟨hS0, hS1⟩ := hSw; go_simp; try with_reducible rfl
            try go_simp
            refine wpAnyH_take (i := 5) (v := ?_) rfl (by kernel_rfl) (by kernel_rfl) (by kernel_rfl) (fun _ _ _ h => h) (Or.inl ⟨by rfl, ?_⟩) hHeld ?_
            rotate_left
            · intro wS hSw; obtain ⟨hS0, hS1⟩ := hSw; go_simp; try with_reducible rfl
            try go_simp
            refine wpAnyH_take (i := 6) (v := ?_) rfl (by kernel_rfl) (by kernel_rfl) (by kernel_rfl) (fun _ _ _ h => h) (Or.inl ⟨by rfl, ?_⟩) hHeld ?_
            rotate_left
            · intro wS hSw; obtain ⟨hS0, hS1⟩ := hSw; go_simp; try with_reducible rfl
            try go_simp
            refine wpAnyH_take (i := 7) (v := ?_) rfl (by kernel_rfl) (by kernel_rfl) (by kernel_rfl) (fun _ _ _ h => h) (Or.inl ⟨by rfl, ?_⟩) hHeld ?_
            rotate_left
            · intro wS hSw; obtain ⟨hS0, hS1⟩ := hSw; go_simp; try with_reducible rfl
            try go_simp
            refine wpAnyH_take (i := 8) (v := ?_) rfl (by kernel_rfl) (by kernel_rfl) (by kernel_rfl) (fun _ _ _ h => h) (Or.inl ⟨by rfl, ?_⟩) hHeld ?_
            rotate_left
            · intro wS hSw; obtain ⟨hS0, hS1⟩ := hSw; go_simp; try with_reducible rfl
            try go_simp
            refine wpAnyH_take (i := 9) (v := ?_) rfl (by kernel_rfl) (by kernel_rfl) (by kernel_rfl) (fun _ _ _ h => h) (Or.inl ⟨by rfl, ?_⟩) hHeld ?_
            rotate_left
            · intro wS hSw; obtain ⟨hS0, hS1⟩ := hSw; go_simp; try with_reducible rfl
            try go_simp
            refine wpAnyH_take (i := 10) (v := ?_) rfl (by kernel_rfl) (by kernel_rfl) (by kernel_rfl) (fun _ _ _ h => h) (Or.inl ⟨by rfl, ?_⟩) hHeld ?_
            rotate_left
            · intro wS hSw; obtain ⟨hS0, hS1⟩ := hSw; go_simp; try with_reducible rfl
            try go_simp
            refine wpAnyH_take (i := 11) (v := ?_) rfl (by kernel_rfl) (by kernel_rfl) (by kernel_rfl) (fun _ _ _ h => h) (Or.inl ⟨by rfl, ?_⟩) hHeld ?_
            rotate_left
            · intro wS hSw; obtain ⟨hS0, hS1⟩ := hSw; go_simp; try with_reducible rfl
            try go_simp
            refine wpAnyH_done (by kernel_rfl) ?_ _
            obtain ⟨V0, hV0⟩ : ∃ V0, wr.drew = V0 := ⟨_, rfl⟩
            rw [hV0]
            have hB0 : Below wr.heap.size wr V0 := hV0 ▸ below_drawn (Below.refl _ _)
            have HST0 := Lib.hid (HST.out.below hB0)
            have HRY0 := Lib.hid (rangeAt_below HRY.out hB0)
            have HTL0 := Lib.hid (HTL.out.below hB0)
            have c14 := HST0.out.hq.cell 14 rfl
            have zq0 := HST0.out.hp.lt
            clear hV0 hB0 HST HRY HTL HK2 HC8
            go_wp2_with fail
            refine (HRB.out _).mono ?_
            rintro e w4 ⟨rfl, rfl⟩
            go_upto_region 16 with (first | (refine wpList_load_mid rfl 30 (.tmp 77) rfl g o (by first | rfl | exact congrArg (fun x => Value.pointer (some x)) (Addr.add_mid _ _ _)) (pktList y.p) _ (item_pkt (rangeAt_below HRY0.out (by exact (by repeat (first | exact Below.refl _ _ | refine below_set ?_ (by first | omega | (simp; done) | (simp; omega)) _ | refine below_drawnN ?_ _ | refine below_drawn ?_ | refine below_new ?_ _))))) Tryd.underlying30 rfl (by kernel_rfl) ?_) | (refine wpList_store_at rfl 30 (.tmp 17) (.tmp 78) rfl _ _ (pktList y.p).toArray rfl (by simp only) rfl (by kernel_rfl) rfl rfl ?_) | (refine wpList_copy_new rfl (.tmp 79) (.tmp 81) rfl rfl rfl (HTL0.out.below (by exact (by repeat (first | exact Below.refl _ _ | refine below_set ?_ (by first | omega | (simp; done) | (simp; omega)) _ | refine below_drawnN ?_ _ | refine below_drawn ?_ | refine below_new ?_ _)))) (by omega) ?_; intro a4 d4 V2 hown hb2; have hB2 : Below V0.heap.size V0 V2 := below_on (by exact (by repeat (first | exact Below.refl _ _ | refine below_set ?_ (by first | omega | (simp; done) | (simp; omega)) _ | refine below_drawnN ?_ _ | refine below_drawn ?_ | refine below_new ?_ _))) hb2; have HS2 := Lib.hid ((HST0.out.below hB2).list2 (hown.mono (base' := w.heap.size + 3) (by simp; omega))); have HS3 := Lib.hid ((HS2.out.row 0).seed s1); have hPK : Blk V2 V0.heap.size (pktList y.p) := Blk.below (Blk.below (Blk.new _ (pktList y.p).toArray 30) (below_new (Below.refl _ _) _)) hb2; have HPK := Lib.hid hPK; have HPK3 := Lib.hid ((hPK.kept (grown_set V2 ⟨w.heap.size, 6, none⟩ (.int .i64 0)) (fun e => by injection e with e; simp only at e; omega)).kept (grown_set _ ⟨w.heap.size, 14, none⟩ (.int .u64 (s1 : Int))) (fun e => by injection e with e; simp only at e; omega)); have c6' := HS2.out.hq.cell 6 rfl; have c14' := HS2.out.hq.cell 14 rfl; have f6 := HS2.out.hq.frozen ⟨w.heap.size, 6, none⟩ rfl; have f14 := HS2.out.hq.frozen ⟨w.heap.size, 14, none⟩ rfl; have hs2 := hB2.size; clear hB2 hb2 hown hPK))
            have hs4 := HS3.out
            have hk4 := HPK3.out
            obtain ⟨V4, hV4⟩ : ∃ V4, (V2.setCell ⟨w.heap.size, 6, none⟩ (.int .i64 0)).setCell ⟨w.heap.size, 14, none⟩ (.int .u64 (s1 : Int)) = V4 := ⟨_, rfl⟩
            rw [hV4] at hs4 hk4 ⊢
            have HS4 := Lib.hid hs4
            have HK4 := Lib.hid hk4
            have hz4 := hs4.hp.lt
            clear hs4 hk4 hV4 c6' c14' f6 f14 HS3 HPK3
            go_wp2_with (first | (refine wpList_load_mid rfl 30 (.tmp 17) rfl V0.heap.size 0 rfl (pktList y.p) _ HK4.out.range Tryd.underlying30 rfl (by kernel_rfl) ?_) | (refine wpList_build_pkt rfl (.tmp 102) rfl y.p rfl ?_) | (refine wpList_add_pkt rfl (.tmp 101) (.tmp 103) rfl rfl (own_below8 HS4.out.hd (below_new (Below.refl _ _) _)) (by simp; omega) V4.heap.size 0 y.p rfl (by exact (Blk.new V4 (pktList y.p).toArray 30).range) (by omega) ?_; intro v' V5 hown5 hgr5; have HS5 := Lib.hid ((HS4.out.below (below_new (Below.refl _ _) _)).push hgr5 hown5); clear hown5 hgr5))
            go_roundw
            case rel => exact ⟨0, s1, a4, n3 - 1, d4, yt, drops ++ [y.p], rfl, HS5.out, (HOK.out.move (Int.le_refl _) ht0 (by omega) (by omega) (Or.inl rfl) (Or.inr rfl)), by simp at hcnt ⊢; omega, HTK.out⟩
            case measure => simp [lenOf]; omega
        · skip
          by_cases hA : A ≤ now - x.since
          · skip
            obtain ⟨gx, ox, rfl, hrx⟩ := HST.out.ha.rd.at0
            have hgx : w.heap.size + 3 ≤ gx ∧ gx < wr.heap.size := by
              obtain ⟨g', e', h4, h5⟩ := HST.out.ha.head (by omega)
              injection e' with e'
              injection e' with e1 e2
              subst e1
              exact ⟨h4, h5⟩
            have hsx := (ok_since HOK.out).1 x xt rfl
            obtain ⟨zx, hzx⟩ : ∃ z, x.since = z := ⟨_, rfl⟩
            have c8x : wr.cell? ⟨gx, ox + 8, none⟩ = some (.int .i64 zx) := hzx ▸ hrx 8 _ rfl
            rw [hzx] at hsx
            have e1x : IntKind.i64.wrap (now - zx) = now - zx := by rw [IntKind.wrap_i64]; omega
            have dz : ((n1 : Int) == 0) = false := by simp; omega
            have hgx6 : some gx ≠ (some w.heap.size : Option Nat) := fun e => by injection e with e; omega
            have HRX := Lib.hid hrx
            have HCX := Lib.hid c8x
            clear hrx c8x
            obtain ⟨b', hb'⟩ : ∃ b', (if d1' = 1 then some (⟨gx, ox, none⟩ : Addr) else some ⟨gx, ox + 9, none⟩) = b' := ⟨_, rfl⟩
            have htl := HST.out.ha.rd.tl HST.out.ha.cap
            rw [hb'] at htl
            have HTLX := Lib.hid htl
            clear htl
            have hx1' : (1 : Int) ≤ n1 := by omega
            have hx2' : 1 ≤ n1 := by omega
            have hx3' : 0 < n1 := by omega
            have hx4' : (0 : Int) < n1 := by omega
            have hx5 : n1 ≤ 500 := by have := HOK.out.short.1; omega
            have hlx : xt.length = n1 - 1 := by simp only [List.length_cons] at hl1; omega
            rw [hzx] at hA
            obtain ⟨g, o, rfl, hry⟩ := HST.out.hl.rd.at0
            have hgw : w.heap.size + 3 ≤ g ∧ g < wr.heap.size := by
              obtain ⟨g', e', h4, h5⟩ := HST.out.hl.head (by omega)
              injection e' with e'
              injection e' with e1 e2
              subst e1
              exact ⟨h4, h5⟩
            have dn : decide ((0 : Int) < (n3 : Int)) = true := decide_eq_true (by omega)
            have hsy := (ok_since HOK.out).2 y yt rfl
            have HPM := Lib.hid (press_min (B := B) (now := now) (y := y) (yt := yt))
            obtain ⟨z, hz⟩ : ∃ z, y.since = z := ⟨_, rfl⟩
            have c8 : wr.cell? ⟨g, o + 8, none⟩ = some (.int .i64 z) := hz ▸ hry 8 _ rfl
            rw [hz] at hsy HPM
            have hm := Du.mul_bd b0 b1 (show 0 ≤ now - z by omega) (by omega)
            have e1 : IntKind.i64.wrap (now - z) = now - z := by rw [IntKind.wrap_i64]; omega
            have e2 : IntKind.i64.wrap (B * (now - z)) = B * (now - z) := by
              generalize B * (now - z) = q at hm ⊢
              rw [IntKind.wrap_i64]
              omega
            obtain ⟨k, hk⟩ : ∃ k, Du.press B now (y :: yt) = k := ⟨_, rfl⟩
            rw [hk] at HPM
            have hpm := HPM.out
            have k0 : 0 ≤ k ∧ k ≤ 1000000 := by
              rw [← hpm]
              generalize B * (now - z) = q at hm ⊢
              omega
            have hg8 : some g ≠ (some w.heap.size : Option Nat) := fun e => by injection e with e; omega
            have HRY := Lib.hid hry
            have HC8 := Lib.hid c8
            clear hry hz c8
            have dr15 : (row == 15) = false := by simp; omega
            have e4 : IntKind.i64.wrap (2 * k) = 2 * k := by rw [IntKind.wrap_i64]; omega
            have htk : Du.take A B now (x :: xt) ys v0 s [] = ⟨xt, (y :: yt), row + 1, s', some { x.p with marked := true }, drops⟩ := HTK.out.trans (by rw [Du.take, if_neg (by omega), if_pos (by rw [hzx]; omega)])
            have HHK := Lib.hid hk
            clear hk
            have HTK := Lib.hid htk
            clear htk
            as_aux_lemma =>
              skip
              have dA : decide (A ≤ now - zx) = true := decide_eq_true hA
              have c6 := HST.out.hq.cell 6 rfl
              have f6 := HST.out.hq.frozen ⟨w.heap.size, 6, none⟩ rfl
              have HS1 := Lib.hid (HST.out.row (row + 1))
              have hG1 : wr.grownBy (wr.setCell ⟨w.heap.size, 6, none⟩ (.int .i64 (row + 1))) (some w.heap.size) := grown_set wr ⟨w.heap.size, 6, none⟩ _
              have HRX1 := Lib.hid (rangeAt_kept HRX.out hG1 hgx6)
              have HTX1 := Lib.hid (HTLX.out.kept hG1 (fun ad e => by
                rcases Nat.eq_zero_or_pos (n1 - 1) with h | h
                · rw [← hb'] at e; split at e <;> (injection e with e; subst e; exact hgx6)
                · rw [← hb'] at e; split at e <;> (injection e with e; subst e; exact hgx6)))
              have HRY1 := Lib.hid (rangeAt_kept HRY.out hG1 hg8)
              go_wp2_with fail
              refine wp_region_held_drew (S := (fun V => V.cell? ⟨w.heap.size, 2, none⟩ = some (.int .i64 B) ∧ V.cell? ⟨g, o + 8, none⟩ = some (.int .i64 z))) (by kernel_rfl) ?_ (fun hHeld => ?_)
              · exact ⟨below_cell_of (below_drawn (Below.refl _ _)) (HS1.out.hq.cell 2 rfl), below_cell_of (below_drawn (Below.refl _ _)) ((grown_set wr ⟨w.heap.size, 6, none⟩ _).cell HC8.out hg8)⟩
              refine wpAnyH_take (i := 0) (v := ?_) rfl (by kernel_rfl) (by kernel_rfl) (by kernel_rfl) (fun _ _ _ h => h) (Or.inl ⟨by rfl, ?_⟩) hHeld ?_
              rotate_left
              · intro wS hSw; obtain ⟨hS0, hS1⟩ := hSw; go_simp; try with_reducible rfl
              try go_simp
              refine wpAnyH_take (i := 1) (v := ?_) rfl (by kernel_rfl) (by kernel_rfl) (by kernel_rfl) (fun _ _ _ h => h) (Or.inl ⟨by rfl, ?_⟩) hHeld ?_
              rotate_left
              · intro wS hSw; obtain ⟨hS0, hS1⟩ := hSw; go_simp; try with_reducible rfl
              try go_simp
              refine wpAnyH_take (i := 2) (v := ?_) rfl (by kernel_rfl) (by kernel_rfl) (by kernel_rfl) (fun _ _ _ h => h) (Or.inl ⟨by rfl, ?_⟩) hHeld ?_
              rotate_left
              · intro wS hSw; obtain ⟨hS0, hS1⟩ := hSw; go_simp; try with_reducible rfl
              try go_simp
              refine wpAnyH_take (i := 3) (v := ?_) rfl (by kernel_rfl) (by kernel_rfl) (by kernel_rfl) (fun _ _ _ h => h) (Or.inl ⟨by rfl, ?_⟩) hHeld ?_
              rotate_left
              · intro wS hSw; obtain ⟨hS0, hS1⟩ := hSw; go_simp; try with_reducible rfl
              try go_simp
              refine wpAnyH_take (i := 4) (v := ?_) rfl (by kernel_rfl) (by kernel_rfl) (by kernel_rfl) (fun _ _ _ h => h) (Or.inl ⟨by rfl, ?_⟩) hHeld ?_
              rotate_left
              · intro wS hSw; obtain ⟨hS0, hS1⟩ := hSw; go_simp; try with_reducible rfl
              try go_simp
              refine wpAnyH_take (i := 5) (v := ?_) rfl (by kernel_rfl) (by kernel_rfl) (by kernel_rfl) (fun _ _ _ h => h) (Or.inl ⟨by rfl, ?_⟩) hHeld ?_
              rotate_left
              · intro wS hSw; obtain ⟨hS0, hS1⟩ := hSw; go_simp; try with_reducible rfl
              try go_simp
              refine wpAnyH_take (i := 6) (v := ?_) rfl (by kernel_rfl) (by kernel_rfl) (by kernel_rfl) (fun _ _ _ h => h) (Or.inl ⟨by rfl, ?_⟩) hHeld ?_
              rotate_left
              · intro wS hSw; obtain ⟨hS0, hS1⟩ := hSw; go_simp; try with_reducible rfl
              try go_simp
              refine wpAnyH_take (i := 7) (v := ?_) rfl (by kernel_rfl) (by kernel_rfl) (by kernel_rfl) (fun _ _ _ h => h) (Or.inl ⟨by rfl, ?_⟩) hHeld ?_
              rotate_left
              · intro wS hSw; obtain ⟨hS0, hS1⟩ := hSw; go_simp; try with_reducible rfl
              try go_simp
              refine wpAnyH_take (i := 8) (v := ?_) rfl (by kernel_rfl) (by kernel_rfl) (by kernel_rfl) (fun _ _ _ h => h) (Or.inl ⟨by rfl, ?_⟩) hHeld ?_
              rotate_left
              · intro wS hSw; obtain ⟨hS0, hS1⟩ := hSw; go_simp; try with_reducible rfl
              try go_simp
              refine wpAnyH_take (i := 9) (v := ?_) rfl (by kernel_rfl) (by kernel_rfl) (by kernel_rfl) (fun _ _ _ h => h) (Or.inl ⟨by rfl, ?_⟩) hHeld ?_
              rotate_left
              · intro wS hSw; obtain ⟨hS0, hS1⟩ := hSw; go_simp; try with_reducible rfl
              try go_simp
              refine wpAnyH_take (i := 10) (v := ?_) rfl (by kernel_rfl) (by kernel_rfl) (by kernel_rfl) (fun _ _ _ h => h) (Or.inl ⟨by rfl, ?_⟩) hHeld ?_
              rotate_left
              · intro wS hSw; obtain ⟨hS0, hS1⟩ := hSw; go_simp; try with_reducible rfl
              try go_simp
              refine wpAnyH_take (i := 11) (v := ?_) rfl (by kernel_rfl) (by kernel_rfl) (by kernel_rfl) (fun _ _ _ h => h) (Or.inl ⟨by rfl, ?_⟩) hHeld ?_
              rotate_left
              · intro wS hSw; obtain ⟨hS0, hS1⟩ := hSw; go_simp; try with_reducible rfl
              try go_simp
              refine wpAnyH_done (by kernel_rfl) ?_ _
              have hb0 : Below (wr.setCell ⟨w.heap.size, 6, none⟩ (.int .i64 (row + 1))).heap.size (wr.setCell ⟨w.heap.size, 6, none⟩ (.int .i64 (row + 1))) (wr.setCell ⟨w.heap.size, 6, none⟩ (.int .i64 (row + 1))).drew := below_drawn (Below.refl _ _)
              have hs0 := HS1.out.below hb0
              have hx0' := rangeAt_below HRX1.out hb0
              have ht0' := HTX1.out.below hb0
              obtain ⟨V0, hV0⟩ : ∃ V0, (wr.setCell ⟨w.heap.size, 6, none⟩ (.int .i64 (row + 1))).drew = V0 := ⟨_, rfl⟩
              rw [hV0] at hs0 hx0' ht0'
              rw [hV0]
              have HS0 := Lib.hid hs0
              have HRX0 := Lib.hid hx0'
              have HTX0 := Lib.hid ht0'
              have zq0 := hs0.hp.lt
              clear hs0 hx0' ht0' hV0 hb0 hG1 c6 f6
              go_wp2_with (first | (refine wpList_load_mid rfl 30 (.tmp 142) rfl gx ox (by first | rfl | exact congrArg (fun x => Value.pointer (some x)) (Addr.add_mid _ _ _)) (pktList x.p) _ (item_pkt (rangeAt_below HRX0.out (by exact (by repeat (first | exact Below.refl _ _ | refine below_set ?_ (by first | omega | (simp; done) | (simp; omega)) _ | refine below_drawnN ?_ _ | refine below_drawn ?_ | refine below_new ?_ _))))) Tryd.underlying30 rfl (by kernel_rfl) ?_) | (refine wpList_store_at rfl 30 (.tmp 19) (.tmp 143) rfl _ _ (pktList x.p).toArray rfl (by first | rfl | simp only) rfl (by kernel_rfl) rfl rfl ?_))
              obtain ⟨V2, hV2⟩ : ∃ V2, V0.alloc (.cells (pktList x.p).toArray 30) = V2 := ⟨_, rfl⟩
              rw [hV2]
              have hb2 : Below V0.heap.size V0 V2 := by rw [← hV2]; exact below_new (Below.refl _ _) _
              have hap := HS0.out.apart
              have hk2 : Blk V2 V0.heap.size (pktList x.p) := by rw [← hV2]; exact Blk.new _ _ _
              have HS2 := Lib.hid (HS0.out.below hb2)
              have HRX2 := Lib.hid (rangeAt_below HRX0.out hb2)
              have HTX2 := Lib.hid (HTX0.out.below hb2)
              obtain ⟨pk, epk⟩ : ∃ z, V0.heap.size = z := ⟨_, rfl⟩
              rw [epk] at hk2 zq0 hap ⊢
              have hgp : some gx ≠ some pk := fun e => hap.1 ⟨gx, ox, none⟩ rfl hx3' (by injection e)
              have HAP := Lib.hid hap
              have HK2 := Lib.hid hk2
              have zk2 := hk2.lt
              clear hV2 hb2 hk2 epk hap
              refine wp_region_held_drew (S := (fun V => V.cell? ⟨w.heap.size, 1, none⟩ = some (.int .i64 A) ∧ V.cell? ⟨gx, ox + 8, none⟩ = some (.int .i64 zx))) (by kernel_rfl) ?_ (fun hHeld => ?_)
              · exact ⟨below_cell_of (below_drawn (Below.refl _ _)) (HS2.out.hq.cell 1 rfl), below_cell_of (below_drawn (Below.refl _ _)) (hzx ▸ HRX2.out 8 _ rfl)⟩
              refine wpAnyH_take (i := 0) (v := ?_) rfl (by kernel_rfl) (by kernel_rfl) (by kernel_rfl) (fun _ _ _ h => h) (Or.inl ⟨by rfl, ?_⟩) hHeld ?_
              rotate_left
              · intro wS hSw; obtain ⟨hS0, hS1⟩ := hSw; go_simp; try with_reducible rfl
              try go_simp
              refine wpAnyH_take (i := 1) (v := ?_) rfl (by kernel_rfl) (by kernel_rfl) (by kernel_rfl) (fun _ _ _ h => h) (Or.inl ⟨by rfl, ?_⟩) hHeld ?_
              rotate_left
              · intro wS hSw; obtain ⟨hS0, hS1⟩ := hSw; go_simp; try with_reducible rfl
              try go_simp
              refine wpAnyH_take (i := 2) (v := ?_) rfl (by kernel_rfl) (by kernel_rfl) (by kernel_rfl) (fun _ _ _ h => h) (Or.inl ⟨by rfl, ?_⟩) hHeld ?_
              rotate_left
              · intro wS hSw; obtain ⟨hS0, hS1⟩ := hSw; go_simp; try with_reducible rfl
              try go_simp
              refine wpAnyH_take (i := 3) (v := ?_) rfl (by kernel_rfl) (by kernel_rfl) (by kernel_rfl) (fun _ _ _ h => h) (Or.inl ⟨by rfl, ?_⟩) hHeld ?_
              rotate_left
              · intro wS hSw; obtain ⟨hS0, hS1⟩ := hSw; go_simp; try with_reducible rfl
              try go_simp
              refine wpAnyH_take (i := 4) (v := ?_) rfl (by kernel_rfl) (by kernel_rfl) (by kernel_rfl) (fun _ _ _ h => h) (Or.inl ⟨by rfl, ?_⟩) hHeld ?_
              rotate_left
              · intro wS hSw; obtain ⟨hS0, hS1⟩ := hSw; go_simp; try with_reducible rfl
              try go_simp
              refine wpAnyH_take (i := 5) (v := ?_) rfl (by kernel_rfl) (by kernel_rfl) (by kernel_rfl) (fun _ _ _ h => h) (Or.inl ⟨by rfl, ?_⟩) hHeld ?_
              rotate_left
              · intro wS hSw; obtain ⟨hS0, hS1⟩ := hSw; go_simp; try with_reducible rfl
              try go_simp
              refine wpAnyH_take (i := 6) (v := ?_) rfl (by kernel_rfl) (by kernel_rfl) (by kernel_rfl) (fun _ _ _ h => h) (Or.inl ⟨by rfl, ?_⟩) hHeld ?_
              rotate_left
              · intro wS hSw; obtain ⟨hS0, hS1⟩ := hSw; go_simp; try with_reducible rfl
              try go_simp
              refine wpAnyH_take (i := 7) (v := ?_) rfl (by kernel_rfl) (by kernel_rfl) (by kernel_rfl) (fun _ _ _ h => h) (Or.inl ⟨by rfl, ?_⟩) hHeld ?_
              rotate_left
              · intro wS hSw; obtain ⟨hS0, hS1⟩ := hSw; go_simp; try with_reducible rfl
              try go_simp
              refine wpAnyH_take (i := 8) (v := ?_) rfl (by kernel_rfl) (by kernel_rfl) (by kernel_rfl) (fun _ _ _ h => h) (Or.inl ⟨by rfl, ?_⟩) hHeld ?_
              rotate_left
              · intro wS hSw; obtain ⟨hS0, hS1⟩ := hSw; go_simp; try with_reducible rfl
              try go_simp
              refine wpAnyH_take (i := 9) (v := ?_) rfl (by kernel_rfl) (by kernel_rfl) (by kernel_rfl) (fun _ _ _ h => h) (Or.inl ⟨by rfl, ?_⟩) hHeld ?_
              rotate_left
              · intro wS hSw; obtain ⟨hS0, hS1⟩ := hSw; go_simp; try with_reducible rfl
              try go_simp
              refine wpAnyH_done (by kernel_rfl) ?_ _
              have hb3 : Below V2.heap.size V2 V2.drew := below_drawn (Below.refl _ _)
              have hs3 := HS2.out.below hb3
              have hk3 := HK2.out.below hb3
              have ht3 := HTX2.out.below hb3
              obtain ⟨V3, hV3⟩ : ∃ V3, V2.drew = V3 := ⟨_, rfl⟩
              rw [hV3] at hs3 hk3 ht3 ⊢
              have c7 := hk3.cell 7 rfl
              have f7 := hk3.frozen ⟨pk, 7, none⟩ rfl
              have c14 := hs3.hq.cell 14 rfl
              have f14 := hs3.hq.frozen ⟨w.heap.size, 14, none⟩ rfl
              have zk3 := hk3.lt
              have HS3 := Lib.hid hs3
              have HK3 := Lib.hid hk3
              have HTX3 := Lib.hid ht3
              clear hs3 hk3 ht3 hb3 hV3 HS2 HK2 HTX2 HRX2
              have HS4 := Lib.hid (RSt.other HS3.out (grown_set V3 ⟨pk, 7, none⟩ (.bool true)) zq0 HAP.out)
              have htx4 := HTX3.out
              have HTX4 := Lib.hid (htx4.kept (grown_set V3 ⟨pk, 7, none⟩ (.bool true)) (fun ad e => by rw [← hb'] at e; split at e <;> (injection e with e; subst e; exact hgp)))
              clear htx4
              have HK4 := Lib.hid (HK3.out.set 7 (.bool true))
              go_wp2_with (first | (refine wpList_copy_new rfl (.tmp 173) (.tmp 175) rfl rfl rfl (HTX4.out.below (by exact (by repeat (first | exact Below.refl _ _ | refine below_set ?_ (by first | omega | (simp; done) | (simp; omega)) _ | refine below_drawnN ?_ _ | refine below_drawn ?_ | refine below_new ?_ _)))) (by omega) ?_; intro a4 d4 V5 hown hb5; have hB5 : Below (V3.setCell ⟨pk, 7, none⟩ (.bool true)).heap.size (V3.setCell ⟨pk, 7, none⟩ (.bool true)) V5 := below_on (by exact (by repeat (first | exact Below.refl _ _ | refine below_set ?_ (by first | omega | (simp; done) | (simp; omega)) _ | refine below_drawnN ?_ _ | refine below_drawn ?_ | refine below_new ?_ _))) hb5; have HS5 := Lib.hid ((HS4.out.below hB5).list1 (hown.mono (base' := w.heap.size + 3) (by simp; omega))); have HK5 := Lib.hid (HK4.out.below hB5); clear hB5 hb5 hown))
              have hs4 := HS5.out
              have hk4 := HK5.out
              obtain ⟨V4, rfl⟩ : ∃ V4, V4 = V5 := ⟨_, rfl⟩
              have HS4 := Lib.hid hs4
              have HK4 := Lib.hid hk4
              have hz4 := hs4.hp.lt
              clear hs4 hk4
              refine wp_region_held_drew (S := (fun V => V.rangeAt w.heap.size 0 (dqList A B room (some ⟨ab, ao, none⟩) lc (row + 1) v7 s') ∧ V.rangeAt (pk) 0 (pktList { x.p with marked := true }))) (by kernel_rfl) ?_ (fun hHeld => ?_)
              · exact ⟨(HS4.out.hq.below (below_drawn (Below.refl _ _))).range, (HK4.out.below (below_drawn (Below.refl _ _))).range⟩
              refine wpAnyH_take (i := 0) (v := (.agg (dqList A B room (some ⟨ab, ao, none⟩) lc (row + 1) v7 s').toArray)) rfl (by kernel_rfl) (by kernel_rfl) (by kernel_rfl) (fun _ _ _ h => h) (yieldsIf_load_mid (by rfl) 28 _ rfl w.heap.size 0 rfl (dqList A B room (some ⟨ab, ao, none⟩) lc (row + 1) v7 s') _ (fun _ h => h.1) Tryd.underlying28 rfl (by kernel_rfl)) hHeld ?_
              try go_simp
              refine wpAnyH_take (i := 6) (v := (.agg (pktList { x.p with marked := true }).toArray)) rfl (by kernel_rfl) (by kernel_rfl) (by kernel_rfl) (fun _ _ _ h => h) (yieldsIf_load_mid (by rfl) 30 _ rfl (pk) 0 rfl (pktList { x.p with marked := true }) _ (fun _ h => h.2) Tryd.underlying30 rfl (by kernel_rfl)) hHeld ?_
              try go_simp
              refine wpAnyH_take (i := 1) (v := ?_) rfl (by kernel_rfl) (by kernel_rfl) (by kernel_rfl) (fun _ _ _ h => h) (Or.inl ⟨by rfl, ?_⟩) hHeld ?_
              rotate_left
              · intro wS hSw; obtain ⟨hS0, hS1⟩ := hSw; go_simp; try with_reducible rfl
              try go_simp
              refine wpAnyH_take (i := 2) (v := ?_) rfl (by kernel_rfl) (by kernel_rfl) (by kernel_rfl) (fun _ _ _ h => h) (Or.inl ⟨by rfl, ?_⟩) hHeld ?_
              rotate_left
              · intro wS hSw; obtain ⟨hS0, hS1⟩ := hSw; go_simp; try with_reducible rfl
              try go_simp
              refine wpAnyH_take (i := 4) (v := ?_) rfl (by kernel_rfl) (by kernel_rfl) (by kernel_rfl) (fun _ _ _ h => h) (Or.inl ⟨by rfl, ?_⟩) hHeld ?_
              rotate_left
              · intro wS hSw; obtain ⟨hS0, hS1⟩ := hSw; go_simp; try with_reducible rfl
              try go_simp
              refine wpAnyH_take (i := 7) (v := ?_) rfl (by kernel_rfl) (by kernel_rfl) (by kernel_rfl) (fun _ _ _ h => h) (Or.inl ⟨by rfl, ?_⟩) hHeld ?_
              rotate_left
              · intro wS hSw; obtain ⟨hS0, hS1⟩ := hSw; go_simp; try with_reducible rfl
              try go_simp
              refine wpAnyH_ready (rs := [3]) (by kernel_rfl) (by simp) ?_
              refine AllReadyH.cons rfl (fun K hK => ?_) AllReadyH.nil
              go_simp
              have hA : Below V4.heap.size V4 (V4.alloc (.cells ([(.slice a4 (n1 - 1) d4), (.slice (some ⟨g, o, none⟩) n3 d3)] : List Value).toArray 49)).drew := below_drawn (below_new (Below.refl _ _) _)
              have hhd := (Blk.new V4 ([(.slice a4 (n1 - 1) d4), (.slice (some ⟨g, o, none⟩) n3 d3)] : List Value).toArray 49).below (below_drawn (Below.refl _ _))
              obtain ⟨hd, ehd⟩ : ∃ z, V4.heap.size = z := ⟨_, rfl⟩
              rw [ehd] at hhd ⊢
              have lhd : w.heap.size + 2 < hd := by omega
              clear ehd
              refine hK.out _ _ ?_ (fun hHeld => ?_)
              · exact ⟨rangeAt_below hHeld.1 (below_new (Below.refl _ _) _), rangeAt_below hHeld.2 (below_new (Below.refl _ _) _)⟩
              clear hK K
              try go_simp
              refine wpAnyH_ready (rs := [5]) (by kernel_rfl) (by simp) ?_
              refine AllReadyH.cons rfl (fun K hK => ?_) AllReadyH.nil
              go_simp
              refine (with_any 6 A B 0 room (some ⟨ab, ao, none⟩) 2 lc (row + 1) 0 0 0 0 0 0 v7 s' (some ⟨hd, 0, none⟩) 2 2 now _).mono ?_
              rintro e W5 ⟨rfl, hbc⟩
              have hA := below_on hA hbc
              have hhd := hhd.below hbc
              have hs5 := HS4.out.below hA
              refine hK.out _ _ ?_ (fun hHeld => ?_)
              · exact ⟨rangeAt_below hHeld.1 hbc, rangeAt_below hHeld.2 hbc⟩
              clear hK K
              try go_simp
              refine wpAnyH_ready (rs := [8]) (by kernel_rfl) (by simp) ?_
              refine AllReadyH.cons rfl (fun K hK => ?_) AllReadyH.nil
              refine ready_store_blk (by rfl) _ 28 _ _ rfl (w.heap.size + 1) zeroDQ (dqList A B room (some ⟨hd, 0, none⟩) 2 (row + 1) now s') rfl rfl hs5.hz (by kernel_rfl) rfl (dqList_one _ _ _ _ _ _ _ _) ?_
              intro V6 hq6 hg6
              have hp6 := hs5.hp.kept hg6 (fun e => by injection e with e; omega)
              refine hK.out _ _ ?_ (fun hHeld => ?_)
              · exact ⟨rangeAt_kept hHeld.1 hg6 (fun e => by injection e with e; omega), rangeAt_kept hHeld.2 hg6 (fun e => by injection e with e; omega)⟩
              clear hK K
              try go_simp
              refine wpAnyH_ready (rs := [9]) (by kernel_rfl) (by simp) ?_
              refine AllReadyH.cons rfl (fun K hK => ?_) AllReadyH.nil
              refine ready_store_blk (by rfl) _ 30 _ _ rfl (w.heap.size + 1 + 1) zeroP (pktList { x.p with marked := true }) rfl rfl hp6 (by kernel_rfl) rfl (pktList_one _) ?_
              intro V7 hp7 hg7
              refine hK.out _ _ ?_ (fun hHeld => ?_)
              · exact ⟨rangeAt_kept hHeld.1 hg7 (fun e => by injection e with e; omega), rangeAt_kept hHeld.2 hg7 (fun e => by injection e with e; omega)⟩
              clear hK K
              try go_simp
              refine wpAnyH_take (i := 10) (v := ?_) rfl (by kernel_rfl) (by kernel_rfl) (by kernel_rfl) (fun _ _ _ h => h) (Or.inl ⟨by rfl, ?_⟩) hHeld ?_
              rotate_left
              · intro wS hSw; obtain ⟨hS0, hS1⟩ := hSw; go_simp; try with_reducible rfl
              try go_simp
              refine wpAnyH_take (i := 11) (v := ?_) rfl (by kernel_rfl) (by kernel_rfl) (by kernel_rfl) (fun _ _ _ h => h) (Or.inl ⟨by rfl, ?_⟩) hHeld ?_
              rotate_left
              · intro wS hSw; obtain ⟨hS0, hS1⟩ := hSw; go_simp; try with_reducible rfl
              try go_simp
              refine wpAnyH_take (i := 12) (v := ?_) rfl (by kernel_rfl) (by kernel_rfl) (by kernel_rfl) (fun _ _ _ h => h) (Or.inl ⟨by rfl, ?_⟩) hHeld ?_
              rotate_left
              · intro wS hSw; obtain ⟨hS0, hS1⟩ := hSw; go_simp; try with_reducible rfl
              try go_simp
              refine wpAnyH_done (by kernel_rfl) ?_ _
              go_wp2
              obtain ⟨hB, hQ, hR⟩ := rt_end (row := (row + 1)) hs5 hg6 hg7 hhd lhd (HOK.out.move h0 h1 (by omega) (by omega) (Or.inr rfl) (Or.inl rfl))
              refine bodyPost_ret (results_cc111 Tryd.results15 rfl rfl (run_loadVar_mid _ (w.heap.size + 1) 0 28 (dqList A B room (some ⟨hd, 0, none⟩) 2 (row + 1) now s') _ (hq6.kept hg7 (fun e => by injection e with e; omega)).range Tryd.underlying28 rfl (by kernel_rfl)) (run_loadVar_mid _ (w.heap.size + 1 + 1) 0 30 (pktList { x.p with marked := true }) _ hp7.range Tryd.underlying30 rfl (by kernel_rfl))) rfl ?_
              rw [HTK.out]
              exact ⟨hd, 0, 2, a4, d4, some ⟨g, o, none⟩, d3, da, dc, rfl, hB, by rw [hlx, List.length_cons, show yt.length + 1 = n3 by omega]; exact hQ, hR⟩
          · cases hmk : x.p.marked with
            | true =>
              skip
              obtain ⟨gx, ox, rfl, hrx⟩ := HST.out.ha.rd.at0
              have hgx : w.heap.size + 3 ≤ gx ∧ gx < wr.heap.size := by
                obtain ⟨g', e', h4, h5⟩ := HST.out.ha.head (by omega)
                injection e' with e'
                injection e' with e1 e2
                subst e1
                exact ⟨h4, h5⟩
              have hsx := (ok_since HOK.out).1 x xt rfl
              obtain ⟨zx, hzx⟩ : ∃ z, x.since = z := ⟨_, rfl⟩
              have c8x : wr.cell? ⟨gx, ox + 8, none⟩ = some (.int .i64 zx) := hzx ▸ hrx 8 _ rfl
              rw [hzx] at hsx
              have e1x : IntKind.i64.wrap (now - zx) = now - zx := by rw [IntKind.wrap_i64]; omega
              have dz : ((n1 : Int) == 0) = false := by simp; omega
              have hgx6 : some gx ≠ (some w.heap.size : Option Nat) := fun e => by injection e with e; omega
              have HRX := Lib.hid hrx
              have HCX := Lib.hid c8x
              clear hrx c8x
              obtain ⟨b', hb'⟩ : ∃ b', (if d1' = 1 then some (⟨gx, ox, none⟩ : Addr) else some ⟨gx, ox + 9, none⟩) = b' := ⟨_, rfl⟩
              have htl := HST.out.ha.rd.tl HST.out.ha.cap
              rw [hb'] at htl
              have HTLX := Lib.hid htl
              clear htl
              have hx1' : (1 : Int) ≤ n1 := by omega
              have hx2' : 1 ≤ n1 := by omega
              have hx3' : 0 < n1 := by omega
              have hx4' : (0 : Int) < n1 := by omega
              have hx5 : n1 ≤ 500 := by have := HOK.out.short.1; omega
              have hlx : xt.length = n1 - 1 := by simp only [List.length_cons] at hl1; omega
              rw [hzx] at hA
              obtain ⟨g, o, rfl, hry⟩ := HST.out.hl.rd.at0
              have hgw : w.heap.size + 3 ≤ g ∧ g < wr.heap.size := by
                obtain ⟨g', e', h4, h5⟩ := HST.out.hl.head (by omega)
                injection e' with e'
                injection e' with e1 e2
                subst e1
                exact ⟨h4, h5⟩
              have dn : decide ((0 : Int) < (n3 : Int)) = true := decide_eq_true (by omega)
              have hsy := (ok_since HOK.out).2 y yt rfl
              have HPM := Lib.hid (press_min (B := B) (now := now) (y := y) (yt := yt))
              obtain ⟨z, hz⟩ : ∃ z, y.since = z := ⟨_, rfl⟩
              have c8 : wr.cell? ⟨g, o + 8, none⟩ = some (.int .i64 z) := hz ▸ hry 8 _ rfl
              rw [hz] at hsy HPM
              have hm := Du.mul_bd b0 b1 (show 0 ≤ now - z by omega) (by omega)
              have e1 : IntKind.i64.wrap (now - z) = now - z := by rw [IntKind.wrap_i64]; omega
              have e2 : IntKind.i64.wrap (B * (now - z)) = B * (now - z) := by
                generalize B * (now - z) = q at hm ⊢
                rw [IntKind.wrap_i64]
                omega
              obtain ⟨k, hk⟩ : ∃ k, Du.press B now (y :: yt) = k := ⟨_, rfl⟩
              rw [hk] at HPM
              have hpm := HPM.out
              have k0 : 0 ≤ k ∧ k ≤ 1000000 := by
                rw [← hpm]
                generalize B * (now - z) = q at hm ⊢
                omega
              have hg8 : some g ≠ (some w.heap.size : Option Nat) := fun e => by injection e with e; omega
              have HRY := Lib.hid hry
              have HC8 := Lib.hid c8
              clear hry hz c8
              have dr15 : (row == 15) = false := by simp; omega
              have e4 : IntKind.i64.wrap (2 * k) = 2 * k := by rw [IntKind.wrap_i64]; omega
              have htk : Du.take A B now (x :: xt) ys v0 s [] = ⟨xt, (y :: yt), row + 1, Rand.nextSeed s', some { x.p with marked := true }, drops⟩ := HTK.out.trans (by rw [Du.take, if_neg (by omega), if_neg (by rw [hzx]; omega), mark_same hmk])
              have HHK := Lib.hid hk
              clear hk
              have HMK := Lib.hid hmk
              clear hmk
              have hrb := fun V => rb_any s' V
              generalize Rand.nextSeed s' = s1 at hrb htk
              as_aux_lemma =>
                have HRB := Lib.hid hrb
                clear hrb
                have HTK := Lib.hid htk
                clear htk
                have dA : decide (A ≤ now - zx) = false := decide_eq_false hA
                have c6 := HST.out.hq.cell 6 rfl
                have f6 := HST.out.hq.frozen ⟨w.heap.size, 6, none⟩ rfl
                have HS1 := Lib.hid (HST.out.row (row + 1))
                have hG1 : wr.grownBy (wr.setCell ⟨w.heap.size, 6, none⟩ (.int .i64 (row + 1))) (some w.heap.size) := grown_set wr ⟨w.heap.size, 6, none⟩ _
                have HRX1 := Lib.hid (rangeAt_kept HRX.out hG1 hgx6)
                have HTX1 := Lib.hid (HTLX.out.kept hG1 (fun ad e => by
                  rcases Nat.eq_zero_or_pos (n1 - 1) with h | h
                  · rw [← hb'] at e; split at e <;> (injection e with e; subst e; exact hgx6)
                  · rw [← hb'] at e; split at e <;> (injection e with e; subst e; exact hgx6)))
                have HRY1 := Lib.hid (rangeAt_kept HRY.out hG1 hg8)
                go_wp2_with fail
                refine wp_region_held_drew (S := (fun V => V.cell? ⟨w.heap.size, 2, none⟩ = some (.int .i64 B) ∧ V.cell? ⟨g, o + 8, none⟩ = some (.int .i64 z))) (by kernel_rfl) ?_ (fun hHeld => ?_)
                · exact ⟨below_cell_of (below_drawn (Below.refl _ _)) (HS1.out.hq.cell 2 rfl), below_cell_of (below_drawn (Below.refl _ _)) ((grown_set wr ⟨w.heap.size, 6, none⟩ _).cell HC8.out hg8)⟩
                refine wpAnyH_take (i := 0) (v := ?_) rfl (by kernel_rfl) (by kernel_rfl) (by kernel_rfl) (fun _ _ _ h => h) (Or.inl ⟨by rfl, ?_⟩) hHeld ?_
                rotate_left
                · intro wS hSw; obtain ⟨hS0, hS1⟩ := hSw; go_simp; try with_reducible rfl
                try go_simp
                refine wpAnyH_take (i := 1) (v := ?_) rfl (by kernel_rfl) (by kernel_rfl) (by kernel_rfl) (fun _ _ _ h => h) (Or.inl ⟨by rfl, ?_⟩) hHeld ?_
                rotate_left
                · intro wS hSw; obtain ⟨hS0, hS1⟩ := hSw; go_simp; try with_reducible rfl
                try go_simp
                refine wpAnyH_take (i := 2) (v := ?_) rfl (by kernel_rfl) (by kernel_rfl) (by kernel_rfl) (fun _ _ _ h => h) (Or.inl ⟨by rfl, ?_⟩) hHeld ?_
                rotate_left
                · intro wS hSw; obtain ⟨hS0, hS1⟩ := hSw; go_simp; try with_reducible rfl
                try go_simp
                refine wpAnyH_take (i := 3) (v := ?_) rfl (by kernel_rfl) (by kernel_rfl) (by kernel_rfl) (fun _ _ _ h => h) (Or.inl ⟨by rfl, ?_⟩) hHeld ?_
                rotate_left
                · intro wS hSw; obtain ⟨hS0, hS1⟩ := hSw; go_simp; try with_reducible rfl
                try go_simp
                refine wpAnyH_take (i := 4) (v := ?_) rfl (by kernel_rfl) (by kernel_rfl) (by kernel_rfl) (fun _ _ _ h => h) (Or.inl ⟨by rfl, ?_⟩) hHeld ?_
                rotate_left
                · intro wS hSw; obtain ⟨hS0, hS1⟩ := hSw; go_simp; try with_reducible rfl
                try go_simp
                refine wpAnyH_take (i := 5) (v := ?_) rfl (by kernel_rfl) (by kernel_rfl) (by kernel_rfl) (fun _ _ _ h => h) (Or.inl ⟨by rfl, ?_⟩) hHeld ?_
                rotate_left
                · intro wS hSw; obtain ⟨hS0, hS1⟩ := hSw; go_simp; try with_reducible rfl
                try go_simp
                refine wpAnyH_take (i := 6) (v := ?_) rfl (by kernel_rfl) (by kernel_rfl) (by kernel_rfl) (fun _ _ _ h => h) (Or.inl ⟨by rfl, ?_⟩) hHeld ?_
                rotate_left
                · intro wS hSw; obtain ⟨hS0, hS1⟩ := hSw; go_simp; try with_reducible rfl
                try go_simp
                refine wpAnyH_take (i := 7) (v := ?_) rfl (by kernel_rfl) (by kernel_rfl) (by kernel_rfl) (fun _ _ _ h => h) (Or.inl ⟨by rfl, ?_⟩) hHeld ?_
                rotate_left
                · intro wS hSw; obtain ⟨hS0, hS1⟩ := hSw; go_simp; try with_reducible rfl
                try go_simp
                refine wpAnyH_take (i := 8) (v := ?_) rfl (by kernel_rfl) (by kernel_rfl) (by kernel_rfl) (fun _ _ _ h => h) (Or.inl ⟨by rfl, ?_⟩) hHeld ?_
                rotate_left
                · intro wS hSw; obtain ⟨hS0, hS1⟩ := hSw; go_simp; try with_reducible rfl
                try go_simp
                refine wpAnyH_take (i := 9) (v := ?_) rfl (by kernel_rfl) (by kernel_rfl) (by kernel_rfl) (fun _ _ _ h => h) (Or.inl ⟨by rfl, ?_⟩) hHeld ?_
                rotate_left
                · intro wS hSw; obtain ⟨hS0, hS1⟩ := hSw; go_simp; try with_reducible rfl
                try go_simp
                refine wpAnyH_take (i := 10) (v := ?_) rfl (by kernel_rfl) (by kernel_rfl) (by kernel_rfl) (fun _ _ _ h => h) (Or.inl ⟨by rfl, ?_⟩) hHeld ?_
                rotate_left
                · intro wS hSw; obtain ⟨hS0, hS1⟩ := hSw; go_simp; try with_reducible rfl
                try go_simp
                refine wpAnyH_take (i := 11) (v := ?_) rfl (by kernel_rfl) (by kernel_rfl) (by kernel_rfl) (fun _ _ _ h => h) (Or.inl ⟨by rfl, ?_⟩) hHeld ?_
                rotate_left
                · intro wS hSw; obtain ⟨hS0, hS1⟩ := hSw; go_simp; try with_reducible rfl
                try go_simp
                refine wpAnyH_done (by kernel_rfl) ?_ _
                have hb0 : Below (wr.setCell ⟨w.heap.size, 6, none⟩ (.int .i64 (row + 1))).heap.size (wr.setCell ⟨w.heap.size, 6, none⟩ (.int .i64 (row + 1))) (wr.setCell ⟨w.heap.size, 6, none⟩ (.int .i64 (row + 1))).drew := below_drawn (Below.refl _ _)
                have hs0 := HS1.out.below hb0
                have hx0' := rangeAt_below HRX1.out hb0
                have ht0' := HTX1.out.below hb0
                obtain ⟨V0, hV0⟩ : ∃ V0, (wr.setCell ⟨w.heap.size, 6, none⟩ (.int .i64 (row + 1))).drew = V0 := ⟨_, rfl⟩
                rw [hV0] at hs0 hx0' ht0'
                rw [hV0]
                have HS0 := Lib.hid hs0
                have HRX0 := Lib.hid hx0'
                have HTX0 := Lib.hid ht0'
                have zq0 := hs0.hp.lt
                clear hs0 hx0' ht0' hV0 hb0 hG1 c6 f6
                go_wp2_with (first | (refine wpList_load_mid rfl 30 (.tmp 142) rfl gx ox (by first | rfl | exact congrArg (fun x => Value.pointer (some x)) (Addr.add_mid _ _ _)) (pktList x.p) _ (item_pkt (rangeAt_below HRX0.out (by exact (by repeat (first | exact Below.refl _ _ | refine below_set ?_ (by first | omega | (simp; done) | (simp; omega)) _ | refine below_drawnN ?_ _ | refine below_drawn ?_ | refine below_new ?_ _))))) Tryd.underlying30 rfl (by kernel_rfl) ?_) | (refine wpList_store_at rfl 30 (.tmp 19) (.tmp 143) rfl _ _ (pktList x.p).toArray rfl (by first | rfl | simp only) rfl (by kernel_rfl) rfl rfl ?_))
                obtain ⟨V2, hV2⟩ : ∃ V2, V0.alloc (.cells (pktList x.p).toArray 30) = V2 := ⟨_, rfl⟩
                rw [hV2]
                have hb2 : Below V0.heap.size V0 V2 := by rw [← hV2]; exact below_new (Below.refl _ _) _
                have hap := HS0.out.apart
                have hk2 : Blk V2 V0.heap.size (pktList x.p) := by rw [← hV2]; exact Blk.new _ _ _
                have HS2 := Lib.hid (HS0.out.below hb2)
                have HRX2 := Lib.hid (rangeAt_below HRX0.out hb2)
                have HTX2 := Lib.hid (HTX0.out.below hb2)
                obtain ⟨pk, epk⟩ : ∃ z, V0.heap.size = z := ⟨_, rfl⟩
                rw [epk] at hk2 zq0 hap ⊢
                have hgp : some gx ≠ some pk := fun e => hap.1 ⟨gx, ox, none⟩ rfl hx3' (by injection e)
                have HAP := Lib.hid hap
                have HK2 := Lib.hid hk2
                have zk2 := hk2.lt
                clear hV2 hb2 hk2 epk hap
                refine wp_region_held_drew (S := (fun V => V.cell? ⟨w.heap.size, 1, none⟩ = some (.int .i64 A) ∧ V.cell? ⟨gx, ox + 8, none⟩ = some (.int .i64 zx))) (by kernel_rfl) ?_ (fun hHeld => ?_)
                · exact ⟨below_cell_of (below_drawn (Below.refl _ _)) (HS2.out.hq.cell 1 rfl), below_cell_of (below_drawn (Below.refl _ _)) (hzx ▸ HRX2.out 8 _ rfl)⟩
                refine wpAnyH_take (i := 0) (v := ?_) rfl (by kernel_rfl) (by kernel_rfl) (by kernel_rfl) (fun _ _ _ h => h) (Or.inl ⟨by rfl, ?_⟩) hHeld ?_
                rotate_left
                · intro wS hSw; obtain ⟨hS0, hS1⟩ := hSw; go_simp; try with_reducible rfl
                try go_simp
                refine wpAnyH_take (i := 1) (v := ?_) rfl (by kernel_rfl) (by kernel_rfl) (by kernel_rfl) (fun _ _ _ h => h) (Or.inl ⟨by rfl, ?_⟩) hHeld ?_
                rotate_left
                · intro wS hSw; obtain ⟨hS0, hS1⟩ := hSw; go_simp; try with_reducible rfl
                try go_simp
                refine wpAnyH_take (i := 2) (v := ?_) rfl (by kernel_rfl) (by kernel_rfl) (by kernel_rfl) (fun _ _ _ h => h) (Or.inl ⟨by rfl, ?_⟩) hHeld ?_
                rotate_left
                · intro wS hSw; obtain ⟨hS0, hS1⟩ := hSw; go_simp; try with_reducible rfl
                try go_simp
                refine wpAnyH_take (i := 3) (v := ?_) rfl (by kernel_rfl) (by kernel_rfl) (by kernel_rfl) (fun _ _ _ h => h) (Or.inl ⟨by rfl, ?_⟩) hHeld ?_
                rotate_left
                · intro wS hSw; obtain ⟨hS0, hS1⟩ := hSw; go_simp; try with_reducible rfl
                try go_simp
                refine wpAnyH_take (i := 4) (v := ?_) rfl (by kernel_rfl) (by kernel_rfl) (by kernel_rfl) (fun _ _ _ h => h) (Or.inl ⟨by rfl, ?_⟩) hHeld ?_
                rotate_left
                · intro wS hSw; obtain ⟨hS0, hS1⟩ := hSw; go_simp; try with_reducible rfl
                try go_simp
                refine wpAnyH_take (i := 5) (v := ?_) rfl (by kernel_rfl) (by kernel_rfl) (by kernel_rfl) (fun _ _ _ h => h) (Or.inl ⟨by rfl, ?_⟩) hHeld ?_
                rotate_left
                · intro wS hSw; obtain ⟨hS0, hS1⟩ := hSw; go_simp; try with_reducible rfl
                try go_simp
                refine wpAnyH_take (i := 6) (v := ?_) rfl (by kernel_rfl) (by kernel_rfl) (by kernel_rfl) (fun _ _ _ h => h) (Or.inl ⟨by rfl, ?_⟩) hHeld ?_
                rotate_left
                · intro wS hSw; obtain ⟨hS0, hS1⟩ := hSw; go_simp; try with_reducible rfl
                try go_simp
                refine wpAnyH_take (i := 7) (v := ?_) rfl (by kernel_rfl) (by kernel_rfl) (by kernel_rfl) (fun _ _ _ h => h) (Or.inl ⟨by rfl, ?_⟩) hHeld ?_
                rotate_left
                · intro wS hSw; obtain ⟨hS0, hS1⟩ := hSw; go_simp; try with_reducible rfl
                try go_simp
                refine wpAnyH_take (i := 8) (v := ?_) rfl (by kernel_rfl) (by kernel_rfl) (by kernel_rfl) (fun _ _ _ h => h) (Or.inl ⟨by rfl, ?_⟩) hHeld ?_
                rotate_left
                · intro wS hSw; obtain ⟨hS0, hS1⟩ := hSw; go_simp; try with_reducible rfl
                try go_simp
                refine wpAnyH_take (i := 9) (v := ?_) rfl (by kernel_rfl) (by kernel_rfl) (by kernel_rfl) (fun _ _ _ h => h) (Or.inl ⟨by rfl, ?_⟩) hHeld ?_
                rotate_left
                · intro wS hSw; obtain ⟨hS0, hS1⟩ := hSw; go_simp; try with_reducible rfl
                try go_simp
                refine wpAnyH_done (by kernel_rfl) ?_ _
                have hb3 : Below V2.heap.size V2 V2.drew := below_drawn (Below.refl _ _)
                have hs3 := HS2.out.below hb3
                have hk3 := HK2.out.below hb3
                have ht3 := HTX2.out.below hb3
                obtain ⟨V3, hV3⟩ : ∃ V3, V2.drew = V3 := ⟨_, rfl⟩
                rw [hV3] at hs3 hk3 ht3 ⊢
                have c7 := hk3.cell 7 rfl
                have f7 := hk3.frozen ⟨pk, 7, none⟩ rfl
                have c14 := hs3.hq.cell 14 rfl
                have f14 := hs3.hq.frozen ⟨w.heap.size, 14, none⟩ rfl
                have zk3 := hk3.lt
                have HS3 := Lib.hid hs3
                have HK3 := Lib.hid hk3
                have HTX3 := Lib.hid ht3
                clear hs3 hk3 ht3 hb3 hV3 HS2 HK2 HTX2 HRX2
                rw [HMK.out] at c7
                have HS4 := Lib.hid (RSt.other (HS3.out.seed s1) (grown_set (V3.setCell ⟨w.heap.size, 14, none⟩ (.int .u64 (s1 : Int))) ⟨pk, 7, none⟩ (.bool true)) zq0 HAP.out)
                have htx4 := HTX3.out.kept (grown_set V3 ⟨w.heap.size, 14, none⟩ (.int .u64 (s1 : Int))) (fun ad e => by rw [← hb'] at e; split at e <;> (injection e with e; subst e; exact hgx6))
                have HTX4 := Lib.hid (htx4.kept (grown_set (V3.setCell ⟨w.heap.size, 14, none⟩ (.int .u64 (s1 : Int))) ⟨pk, 7, none⟩ (.bool true)) (fun ad e => by rw [← hb'] at e; split at e <;> (injection e with e; subst e; exact hgp)))
                clear htx4
                have HK4 := Lib.hid ((HK3.out.kept (grown_set V3 ⟨w.heap.size, 14, none⟩ (.int .u64 (s1 : Int))) (fun e => by injection e with e; simp only at e; omega)).set 7 (.bool true))
                go_wp2_with fail
                refine (HRB.out _).mono ?_
                rintro e w4 ⟨rfl, rfl⟩
                go_wp2_with (first | (refine wpList_copy_new rfl (.tmp 173) (.tmp 175) rfl rfl rfl (HTX4.out.below (by exact (by repeat (first | exact Below.refl _ _ | refine below_set ?_ (by first | omega | (simp; done) | (simp; omega)) _ | refine below_drawnN ?_ _ | refine below_drawn ?_ | refine below_new ?_ _)))) (by omega) ?_; intro a4 d4 V5 hown hb5; have hB5 : Below ((V3.setCell ⟨w.heap.size, 14, none⟩ (.int .u64 (s1 : Int))).setCell ⟨pk, 7, none⟩ (.bool true)).heap.size ((V3.setCell ⟨w.heap.size, 14, none⟩ (.int .u64 (s1 : Int))).setCell ⟨pk, 7, none⟩ (.bool true)) V5 := below_on (by exact (by repeat (first | exact Below.refl _ _ | refine below_set ?_ (by first | omega | (simp; done) | (simp; omega)) _ | refine below_drawnN ?_ _ | refine below_drawn ?_ | refine below_new ?_ _))) hb5; have HS5 := Lib.hid ((HS4.out.below hB5).list1 (hown.mono (base' := w.heap.size + 3) (by simp; omega))); have HK5 := Lib.hid (HK4.out.below hB5); clear hB5 hb5 hown))
                have hs4 := HS5.out
                have hk4 := HK5.out
                obtain ⟨V4, rfl⟩ : ∃ V4, V4 = V5 := ⟨_, rfl⟩
                have HS4 := Lib.hid hs4
                have HK4 := Lib.hid hk4
                have hz4 := hs4.hp.lt
                clear hs4 hk4
                refine wp_region_held_drew (S := (fun V => V.rangeAt w.heap.size 0 (dqList A B room (some ⟨ab, ao, none⟩) lc (row + 1) v7 s1) ∧ V.rangeAt (pk) 0 (pktList { x.p with marked := true }))) (by kernel_rfl) ?_ (fun hHeld => ?_)
                · exact ⟨(HS4.out.hq.below (below_drawn (Below.refl _ _))).range, (HK4.out.below (below_drawn (Below.refl _ _))).range⟩
                refine wpAnyH_take (i := 0) (v := (.agg (dqList A B room (some ⟨ab, ao, none⟩) lc (row + 1) v7 s1).toArray)) rfl (by kernel_rfl) (by kernel_rfl) (by kernel_rfl) (fun _ _ _ h => h) (yieldsIf_load_mid (by rfl) 28 _ rfl w.heap.size 0 rfl (dqList A B room (some ⟨ab, ao, none⟩) lc (row + 1) v7 s1) _ (fun _ h => h.1) Tryd.underlying28 rfl (by kernel_rfl)) hHeld ?_
                try go_simp
                refine wpAnyH_take (i := 6) (v := (.agg (pktList { x.p with marked := true }).toArray)) rfl (by kernel_rfl) (by kernel_rfl) (by kernel_rfl) (fun _ _ _ h => h) (yieldsIf_load_mid (by rfl) 30 _ rfl (pk) 0 rfl (pktList { x.p with marked := true }) _ (fun _ h => h.2) Tryd.underlying30 rfl (by kernel_rfl)) hHeld ?_
                try go_simp
                refine wpAnyH_take (i := 1) (v := ?_) rfl (by kernel_rfl) (by kernel_rfl) (by kernel_rfl) (fun _ _ _ h => h) (Or.inl ⟨by rfl, ?_⟩) hHeld ?_
                rotate_left
                · intro wS hSw; obtain ⟨hS0, hS1⟩ := hSw; go_simp; try with_reducible rfl
                try go_simp
                refine wpAnyH_take (i := 2) (v := ?_) rfl (by kernel_rfl) (by kernel_rfl) (by kernel_rfl) (fun _ _ _ h => h) (Or.inl ⟨by rfl, ?_⟩) hHeld ?_
                rotate_left
                · intro wS hSw; obtain ⟨hS0, hS1⟩ := hSw; go_simp; try with_reducible rfl
                try go_simp
                refine wpAnyH_take (i := 4) (v := ?_) rfl (by kernel_rfl) (by kernel_rfl) (by kernel_rfl) (fun _ _ _ h => h) (Or.inl ⟨by rfl, ?_⟩) hHeld ?_
                rotate_left
                · intro wS hSw; obtain ⟨hS0, hS1⟩ := hSw; go_simp; try with_reducible rfl
                try go_simp
                refine wpAnyH_take (i := 7) (v := ?_) rfl (by kernel_rfl) (by kernel_rfl) (by kernel_rfl) (fun _ _ _ h => h) (Or.inl ⟨by rfl, ?_⟩) hHeld ?_
                rotate_left
                · intro wS hSw; obtain ⟨hS0, hS1⟩ := hSw; go_simp; try with_reducible rfl
                try go_simp
                refine wpAnyH_ready (rs := [3]) (by kernel_rfl) (by simp) ?_
                refine AllReadyH.cons rfl (fun K hK => ?_) AllReadyH.nil
                go_simp
                have hA : Below V4.heap.size V4 (V4.alloc (.cells ([(.slice a4 (n1 - 1) d4), (.slice (some ⟨g, o, none⟩) n3 d3)] : List Value).toArray 49)).drew := below_drawn (below_new (Below.refl _ _) _)
                have hhd := (Blk.new V4 ([(.slice a4 (n1 - 1) d4), (.slice (some ⟨g, o, none⟩) n3 d3)] : List Value).toArray 49).below (below_drawn (Below.refl _ _))
                obtain ⟨hd, ehd⟩ : ∃ z, V4.heap.size = z := ⟨_, rfl⟩
                rw [ehd] at hhd ⊢
                have lhd : w.heap.size + 2 < hd := by omega
                clear ehd
                refine hK.out _ _ ?_ (fun hHeld => ?_)
                · exact ⟨rangeAt_below hHeld.1 (below_new (Below.refl _ _) _), rangeAt_below hHeld.2 (below_new (Below.refl _ _) _)⟩
                clear hK K
                try go_simp
                refine wpAnyH_ready (rs := [5]) (by kernel_rfl) (by simp) ?_
                refine AllReadyH.cons rfl (fun K hK => ?_) AllReadyH.nil
                go_simp
                refine (with_any 6 A B 0 room (some ⟨ab, ao, none⟩) 2 lc (row + 1) 0 0 0 0 0 0 v7 s1 (some ⟨hd, 0, none⟩) 2 2 now _).mono ?_
                rintro e W5 ⟨rfl, hbc⟩
                have hA := below_on hA hbc
                have hhd := hhd.below hbc
                have hs5 := HS4.out.below hA
                refine hK.out _ _ ?_ (fun hHeld => ?_)
                · exact ⟨rangeAt_below hHeld.1 hbc, rangeAt_below hHeld.2 hbc⟩
                clear hK K
                try go_simp
                refine wpAnyH_ready (rs := [8]) (by kernel_rfl) (by simp) ?_
                refine AllReadyH.cons rfl (fun K hK => ?_) AllReadyH.nil
                refine ready_store_blk (by rfl) _ 28 _ _ rfl (w.heap.size + 1) zeroDQ (dqList A B room (some ⟨hd, 0, none⟩) 2 (row + 1) now s1) rfl rfl hs5.hz (by kernel_rfl) rfl (dqList_one _ _ _ _ _ _ _ _) ?_
                intro V6 hq6 hg6
                have hp6 := hs5.hp.kept hg6 (fun e => by injection e with e; omega)
                refine hK.out _ _ ?_ (fun hHeld => ?_)
                · exact ⟨rangeAt_kept hHeld.1 hg6 (fun e => by injection e with e; omega), rangeAt_kept hHeld.2 hg6 (fun e => by injection e with e; omega)⟩
                clear hK K
                try go_simp
                refine wpAnyH_ready (rs := [9]) (by kernel_rfl) (by simp) ?_
                refine AllReadyH.cons rfl (fun K hK => ?_) AllReadyH.nil
                refine ready_store_blk (by rfl) _ 30 _ _ rfl (w.heap.size + 1 + 1) zeroP (pktList { x.p with marked := true }) rfl rfl hp6 (by kernel_rfl) rfl (pktList_one _) ?_
                intro V7 hp7 hg7
                refine hK.out _ _ ?_ (fun hHeld => ?_)
                · exact ⟨rangeAt_kept hHeld.1 hg7 (fun e => by injection e with e; omega), rangeAt_kept hHeld.2 hg7 (fun e => by injection e with e; omega)⟩
                clear hK K
                try go_simp
                refine wpAnyH_take (i := 10) (v := ?_) rfl (by kernel_rfl) (by kernel_rfl) (by kernel_rfl) (fun _ _ _ h => h) (Or.inl ⟨by rfl, ?_⟩) hHeld ?_
                rotate_left
                · intro wS hSw; obtain ⟨hS0, hS1⟩ := hSw; go_simp; try with_reducible rfl
                try go_simp
                refine wpAnyH_take (i := 11) (v := ?_) rfl (by kernel_rfl) (by kernel_rfl) (by kernel_rfl) (fun _ _ _ h => h) (Or.inl ⟨by rfl, ?_⟩) hHeld ?_
                rotate_left
                · intro wS hSw; obtain ⟨hS0, hS1⟩ := hSw; go_simp; try with_reducible rfl
                try go_simp
                refine wpAnyH_take (i := 12) (v := ?_) rfl (by kernel_rfl) (by kernel_rfl) (by kernel_rfl) (fun _ _ _ h => h) (Or.inl ⟨by rfl, ?_⟩) hHeld ?_
                rotate_left
                · intro wS hSw; obtain ⟨hS0, hS1⟩ := hSw; go_simp; try with_reducible rfl
                try go_simp
                refine wpAnyH_done (by kernel_rfl) ?_ _
                go_wp2
                obtain ⟨hB, hQ, hR⟩ := rt_end (row := (row + 1)) hs5 hg6 hg7 hhd lhd (HOK.out.move h0 h1 (by omega) (by omega) (Or.inr rfl) (Or.inl rfl))
                refine bodyPost_ret (results_cc111 Tryd.results15 rfl rfl (run_loadVar_mid _ (w.heap.size + 1) 0 28 (dqList A B room (some ⟨hd, 0, none⟩) 2 (row + 1) now s1) _ (hq6.kept hg7 (fun e => by injection e with e; omega)).range Tryd.underlying28 rfl (by kernel_rfl)) (run_loadVar_mid _ (w.heap.size + 1 + 1) 0 30 (pktList { x.p with marked := true }) _ hp7.range Tryd.underlying30 rfl (by kernel_rfl))) rfl ?_
                rw [HTK.out]
                exact ⟨hd, 0, 2, a4, d4, some ⟨g, o, none⟩, d3, da, dc, rfl, hB, by rw [hlx, List.length_cons, show yt.length + 1 = n3 by omega]; exact hQ, hR⟩
            | false =>
              skip
              obtain ⟨gx, ox, rfl, hrx⟩ := HST.out.ha.rd.at0
              have hgx : w.heap.size + 3 ≤ gx ∧ gx < wr.heap.size := by
                obtain ⟨g', e', h4, h5⟩ := HST.out.ha.head (by omega)
                injection e' with e'
                injection e' with e1 e2
                subst e1
                exact ⟨h4, h5⟩
              have hsx := (ok_since HOK.out).1 x xt rfl
              obtain ⟨zx, hzx⟩ : ∃ z, x.since = z := ⟨_, rfl⟩
              have c8x : wr.cell? ⟨gx, ox + 8, none⟩ = some (.int .i64 zx) := hzx ▸ hrx 8 _ rfl
              rw [hzx] at hsx
              have e1x : IntKind.i64.wrap (now - zx) = now - zx := by rw [IntKind.wrap_i64]; omega
              have dz : ((n1 : Int) == 0) = false := by simp; omega
              have hgx6 : some gx ≠ (some w.heap.size : Option Nat) := fun e => by injection e with e; omega
              have HRX := Lib.hid hrx
              have HCX := Lib.hid c8x
              clear hrx c8x
              obtain ⟨b', hb'⟩ : ∃ b', (if d1' = 1 then some (⟨gx, ox, none⟩ : Addr) else some ⟨gx, ox + 9, none⟩) = b' := ⟨_, rfl⟩
              have htl := HST.out.ha.rd.tl HST.out.ha.cap
              rw [hb'] at htl
              have HTLX := Lib.hid htl
              clear htl
              have hx1' : (1 : Int) ≤ n1 := by omega
              have hx2' : 1 ≤ n1 := by omega
              have hx3' : 0 < n1 := by omega
              have hx4' : (0 : Int) < n1 := by omega
              have hx5 : n1 ≤ 500 := by have := HOK.out.short.1; omega
              have hlx : xt.length = n1 - 1 := by simp only [List.length_cons] at hl1; omega
              rw [hzx] at hA
              obtain ⟨g, o, rfl, hry⟩ := HST.out.hl.rd.at0
              have hgw : w.heap.size + 3 ≤ g ∧ g < wr.heap.size := by
                obtain ⟨g', e', h4, h5⟩ := HST.out.hl.head (by omega)
                injection e' with e'
                injection e' with e1 e2
                subst e1
                exact ⟨h4, h5⟩
              have dn : decide ((0 : Int) < (n3 : Int)) = true := decide_eq_true (by omega)
              have hsy := (ok_since HOK.out).2 y yt rfl
              have HPM := Lib.hid (press_min (B := B) (now := now) (y := y) (yt := yt))
              obtain ⟨z, hz⟩ : ∃ z, y.since = z := ⟨_, rfl⟩
              have c8 : wr.cell? ⟨g, o + 8, none⟩ = some (.int .i64 z) := hz ▸ hry 8 _ rfl
              rw [hz] at hsy HPM
              have hm := Du.mul_bd b0 b1 (show 0 ≤ now - z by omega) (by omega)
              have e1 : IntKind.i64.wrap (now - z) = now - z := by rw [IntKind.wrap_i64]; omega
              have e2 : IntKind.i64.wrap (B * (now - z)) = B * (now - z) := by
                generalize B * (now - z) = q at hm ⊢
                rw [IntKind.wrap_i64]
                omega
              obtain ⟨k, hk⟩ : ∃ k, Du.press B now (y :: yt) = k := ⟨_, rfl⟩
              rw [hk] at HPM
              have hpm := HPM.out
              have k0 : 0 ≤ k ∧ k ≤ 1000000 := by
                rw [← hpm]
                generalize B * (now - z) = q at hm ⊢
                omega
              have hg8 : some g ≠ (some w.heap.size : Option Nat) := fun e => by injection e with e; omega
              have HRY := Lib.hid hry
              have HC8 := Lib.hid c8
              clear hry hz c8
              have dr15 : (row == 15) = false := by simp; omega
              have e4 : IntKind.i64.wrap (2 * k) = 2 * k := by rw [IntKind.wrap_i64]; omega
              obtain ⟨bm, hbm⟩ : ∃ b, decide (Du.rnd s' < 2 * k) = b := ⟨_, rfl⟩
              have htk : Du.take A B now (x :: xt) ys v0 s [] = ⟨xt, (y :: yt), row + 1, Rand.nextSeed s', some { x.p with marked := bm }, drops⟩ := HTK.out.trans (by rw [Du.take, if_neg (by omega), if_neg (by rw [hzx]; omega), mark_other hmk]; simp only [hk, hbm])
              have HHK := Lib.hid hk
              clear hk
              have HMK := Lib.hid hmk
              clear hmk
              have hrb := fun V => rb_any s' V
              generalize Rand.nextSeed s' = s1 at hrb htk
              as_aux_lemma =>
                have HRB := Lib.hid hrb
                clear hrb
                have HTK := Lib.hid htk
                clear htk
                have dA : decide (A ≤ now - zx) = false := decide_eq_false hA
                have c6 := HST.out.hq.cell 6 rfl
                have f6 := HST.out.hq.frozen ⟨w.heap.size, 6, none⟩ rfl
                have HS1 := Lib.hid (HST.out.row (row + 1))
                have hG1 : wr.grownBy (wr.setCell ⟨w.heap.size, 6, none⟩ (.int .i64 (row + 1))) (some w.heap.size) := grown_set wr ⟨w.heap.size, 6, none⟩ _
                have HRX1 := Lib.hid (rangeAt_kept HRX.out hG1 hgx6)
                have HTX1 := Lib.hid (HTLX.out.kept hG1 (fun ad e => by
                  rcases Nat.eq_zero_or_pos (n1 - 1) with h | h
                  · rw [← hb'] at e; split at e <;> (injection e with e; subst e; exact hgx6)
                  · rw [← hb'] at e; split at e <;> (injection e with e; subst e; exact hgx6)))
                have HRY1 := Lib.hid (rangeAt_kept HRY.out hG1 hg8)
                go_wp2_with fail
                refine wp_region_held_drew (S := (fun V => V.cell? ⟨w.heap.size, 2, none⟩ = some (.int .i64 B) ∧ V.cell? ⟨g, o + 8, none⟩ = some (.int .i64 z))) (by kernel_rfl) ?_ (fun hHeld => ?_)
                · exact ⟨below_cell_of (below_drawn (Below.refl _ _)) (HS1.out.hq.cell 2 rfl), below_cell_of (below_drawn (Below.refl _ _)) ((grown_set wr ⟨w.heap.size, 6, none⟩ _).cell HC8.out hg8)⟩
                refine wpAnyH_take (i := 0) (v := ?_) rfl (by kernel_rfl) (by kernel_rfl) (by kernel_rfl) (fun _ _ _ h => h) (Or.inl ⟨by rfl, ?_⟩) hHeld ?_
                rotate_left
                · intro wS hSw; obtain ⟨hS0, hS1⟩ := hSw; go_simp; try with_reducible rfl
                try go_simp
                refine wpAnyH_take (i := 1) (v := ?_) rfl (by kernel_rfl) (by kernel_rfl) (by kernel_rfl) (fun _ _ _ h => h) (Or.inl ⟨by rfl, ?_⟩) hHeld ?_
                rotate_left
                · intro wS hSw; obtain ⟨hS0, hS1⟩ := hSw; go_simp; try with_reducible rfl
                try go_simp
                refine wpAnyH_take (i := 2) (v := ?_) rfl (by kernel_rfl) (by kernel_rfl) (by kernel_rfl) (fun _ _ _ h => h) (Or.inl ⟨by rfl, ?_⟩) hHeld ?_
                rotate_left
                · intro wS hSw; obtain ⟨hS0, hS1⟩ := hSw; go_simp; try with_reducible rfl
                try go_simp
                refine wpAnyH_take (i := 3) (v := ?_) rfl (by kernel_rfl) (by kernel_rfl) (by kernel_rfl) (fun _ _ _ h => h) (Or.inl ⟨by rfl, ?_⟩) hHeld ?_
                rotate_left
                · intro wS hSw; obtain ⟨hS0, hS1⟩ := hSw; go_simp; try with_reducible rfl
                try go_simp
                refine wpAnyH_take (i := 4) (v := ?_) rfl (by kernel_rfl) (by kernel_rfl) (by kernel_rfl) (fun _ _ _ h => h) (Or.inl ⟨by rfl, ?_⟩) hHeld ?_
                rotate_left
                · intro wS hSw; obtain ⟨hS0, hS1⟩ := hSw; go_simp; try with_reducible rfl
                try go_simp
                refine wpAnyH_take (i := 5) (v := ?_) rfl (by kernel_rfl) (by kernel_rfl) (by kernel_rfl) (fun _ _ _ h => h) (Or.inl ⟨by rfl, ?_⟩) hHeld ?_
                rotate_left
                · intro wS hSw; obtain ⟨hS0, hS1⟩ := hSw; go_simp; try with_reducible rfl
                try go_simp
                refine wpAnyH_take (i := 6) (v := ?_) rfl (by kernel_rfl) (by kernel_rfl) (by kernel_rfl) (fun _ _ _ h => h) (Or.inl ⟨by rfl, ?_⟩) hHeld ?_
                rotate_left
                · intro wS hSw; obtain ⟨hS0, hS1⟩ := hSw; go_simp; try with_reducible rfl
                try go_simp
                refine wpAnyH_take (i := 7) (v := ?_) rfl (by kernel_rfl) (by kernel_rfl) (by kernel_rfl) (fun _ _ _ h => h) (Or.inl ⟨by rfl, ?_⟩) hHeld ?_
                rotate_left
                · intro wS hSw; obtain ⟨hS0, hS1⟩ := hSw; go_simp; try with_reducible rfl
                try go_simp
                refine wpAnyH_take (i := 8) (v := ?_) rfl (by kernel_rfl) (by kernel_rfl) (by kernel_rfl) (fun _ _ _ h => h) (Or.inl ⟨by rfl, ?_⟩) hHeld ?_
                rotate_left
                · intro wS hSw; obtain ⟨hS0, hS1⟩ := hSw; go_simp; try with_reducible rfl
                try go_simp
                refine wpAnyH_take (i := 9) (v := ?_) rfl (by kernel_rfl) (by kernel_rfl) (by kernel_rfl) (fun _ _ _ h => h) (Or.inl ⟨by rfl, ?_⟩) hHeld ?_
                rotate_left
                · intro wS hSw; obtain ⟨hS0, hS1⟩ := hSw; go_simp; try with_reducible rfl
                try go_simp
                refine wpAnyH_take (i := 10) (v := ?_) rfl (by kernel_rfl) (by kernel_rfl) (by kernel_rfl) (fun _ _ _ h => h) (Or.inl ⟨by rfl, ?_⟩) hHeld ?_
                rotate_left
                · intro wS hSw; obtain ⟨hS0, hS1⟩ := hSw; go_simp; try with_reducible rfl
                try go_simp
                refine wpAnyH_take (i := 11) (v := ?_) rfl (by kernel_rfl) (by kernel_rfl) (by kernel_rfl) (fun _ _ _ h => h) (Or.inl ⟨by rfl, ?_⟩) hHeld ?_
                rotate_left
                · intro wS hSw; obtain ⟨hS0, hS1⟩ := hSw; go_simp; try with_reducible rfl
                try go_simp
                refine wpAnyH_done (by kernel_rfl) ?_ _
                have hb0 : Below (wr.setCell ⟨w.heap.size, 6, none⟩ (.int .i64 (row + 1))).heap.size (wr.setCell ⟨w.heap.size, 6, none⟩ (.int .i64 (row + 1))) (wr.setCell ⟨w.heap.size, 6, none⟩ (.int .i64 (row + 1))).drew := below_drawn (Below.refl _ _)
                have hs0 := HS1.out.below hb0
                have hx0' := rangeAt_below HRX1.out hb0
                have ht0' := HTX1.out.below hb0
                obtain ⟨V0, hV0⟩ : ∃ V0, (wr.setCell ⟨w.heap.size, 6, none⟩ (.int .i64 (row + 1))).drew = V0 := ⟨_, rfl⟩
                rw [hV0] at hs0 hx0' ht0'
                rw [hV0]
                have HS0 := Lib.hid hs0
                have HRX0 := Lib.hid hx0'
                have HTX0 := Lib.hid ht0'
                have zq0 := hs0.hp.lt
                clear hs0 hx0' ht0' hV0 hb0 hG1 c6 f6
                go_wp2_with (first | (refine wpList_load_mid rfl 30 (.tmp 142) rfl gx ox (by first | rfl | exact congrArg (fun x => Value.pointer (some x)) (Addr.add_mid _ _ _)) (pktList x.p) _ (item_pkt (rangeAt_below HRX0.out (by exact (by repeat (first | exact Below.refl _ _ | refine below_set ?_ (by first | omega | (simp; done) | (simp; omega)) _ | refine below_drawnN ?_ _ | refine below_drawn ?_ | refine below_new ?_ _))))) Tryd.underlying30 rfl (by kernel_rfl) ?_) | (refine wpList_store_at rfl 30 (.tmp 19) (.tmp 143) rfl _ _ (pktList x.p).toArray rfl (by first | rfl | simp only) rfl (by kernel_rfl) rfl rfl ?_))
                obtain ⟨V2, hV2⟩ : ∃ V2, V0.alloc (.cells (pktList x.p).toArray 30) = V2 := ⟨_, rfl⟩
                rw [hV2]
                have hb2 : Below V0.heap.size V0 V2 := by rw [← hV2]; exact below_new (Below.refl _ _) _
                have hap := HS0.out.apart
                have hk2 : Blk V2 V0.heap.size (pktList x.p) := by rw [← hV2]; exact Blk.new _ _ _
                have HS2 := Lib.hid (HS0.out.below hb2)
                have HRX2 := Lib.hid (rangeAt_below HRX0.out hb2)
                have HTX2 := Lib.hid (HTX0.out.below hb2)
                obtain ⟨pk, epk⟩ : ∃ z, V0.heap.size = z := ⟨_, rfl⟩
                rw [epk] at hk2 zq0 hap ⊢
                have hgp : some gx ≠ some pk := fun e => hap.1 ⟨gx, ox, none⟩ rfl hx3' (by injection e)
                have HAP := Lib.hid hap
                have HK2 := Lib.hid hk2
                have zk2 := hk2.lt
                clear hV2 hb2 hk2 epk hap
                refine wp_region_held_drew (S := (fun V => V.cell? ⟨w.heap.size, 1, none⟩ = some (.int .i64 A) ∧ V.cell? ⟨gx, ox + 8, none⟩ = some (.int .i64 zx))) (by kernel_rfl) ?_ (fun hHeld => ?_)
                · exact ⟨below_cell_of (below_drawn (Below.refl _ _)) (HS2.out.hq.cell 1 rfl), below_cell_of (below_drawn (Below.refl _ _)) (hzx ▸ HRX2.out 8 _ rfl)⟩
                refine wpAnyH_take (i := 0) (v := ?_) rfl (by kernel_rfl) (by kernel_rfl) (by kernel_rfl) (fun _ _ _ h => h) (Or.inl ⟨by rfl, ?_⟩) hHeld ?_
                rotate_left
                · intro wS hSw; obtain ⟨hS0, hS1⟩ := hSw; go_simp; try with_reducible rfl
                try go_simp
                refine wpAnyH_take (i := 1) (v := ?_) rfl (by kernel_rfl) (by kernel_rfl) (by kernel_rfl) (fun _ _ _ h => h) (Or.inl ⟨by rfl, ?_⟩) hHeld ?_
                rotate_left
                · intro wS hSw; obtain ⟨hS0, hS1⟩ := hSw; go_simp; try with_reducible rfl
                try go_simp
                refine wpAnyH_take (i := 2) (v := ?_) rfl (by kernel_rfl) (by kernel_rfl) (by kernel_rfl) (fun _ _ _ h => h) (Or.inl ⟨by rfl, ?_⟩) hHeld ?_
                rotate_left
                · intro wS hSw; obtain ⟨hS0, hS1⟩ := hSw; go_simp; try with_reducible rfl
                try go_simp
                refine wpAnyH_take (i := 3) (v := ?_) rfl (by kernel_rfl) (by kernel_rfl) (by kernel_rfl) (fun _ _ _ h => h) (Or.inl ⟨by rfl, ?_⟩) hHeld ?_
                rotate_left
                · intro wS hSw; obtain ⟨hS0, hS1⟩ := hSw; go_simp; try with_reducible rfl
                try go_simp
                refine wpAnyH_take (i := 4) (v := ?_) rfl (by kernel_rfl) (by kernel_rfl) (by kernel_rfl) (fun _ _ _ h => h) (Or.inl ⟨by rfl, ?_⟩) hHeld ?_
                rotate_left
                · intro wS hSw; obtain ⟨hS0, hS1⟩ := hSw; go_simp; try with_reducible rfl
                try go_simp
                refine wpAnyH_take (i := 5) (v := ?_) rfl (by kernel_rfl) (by kernel_rfl) (by kernel_rfl) (fun _ _ _ h => h) (Or.inl ⟨by rfl, ?_⟩) hHeld ?_
                rotate_left
                · intro wS hSw; obtain ⟨hS0, hS1⟩ := hSw; go_simp; try with_reducible rfl
                try go_simp
                refine wpAnyH_take (i := 6) (v := ?_) rfl (by kernel_rfl) (by kernel_rfl) (by kernel_rfl) (fun _ _ _ h => h) (Or.inl ⟨by rfl, ?_⟩) hHeld ?_
                rotate_left
                · intro wS hSw; obtain ⟨hS0, hS1⟩ := hSw; go_simp; try with_reducible rfl
                try go_simp
                refine wpAnyH_take (i := 7) (v := ?_) rfl (by kernel_rfl) (by kernel_rfl) (by kernel_rfl) (fun _ _ _ h => h) (Or.inl ⟨by rfl, ?_⟩) hHeld ?_
                rotate_left
                · intro wS hSw; obtain ⟨hS0, hS1⟩ := hSw; go_simp; try with_reducible rfl
                try go_simp
                refine wpAnyH_take (i := 8) (v := ?_) rfl (by kernel_rfl) (by kernel_rfl) (by kernel_rfl) (fun _ _ _ h => h) (Or.inl ⟨by rfl, ?_⟩) hHeld ?_
                rotate_left
                · intro wS hSw; obtain ⟨hS0, hS1⟩ := hSw; go_simp; try with_reducible rfl
                try go_simp
                refine wpAnyH_take (i := 9) (v := ?_) rfl (by kernel_rfl) (by kernel_rfl) (by kernel_rfl) (fun _ _ _ h => h) (Or.inl ⟨by rfl, ?_⟩) hHeld ?_
                rotate_left
                · intro wS hSw; obtain ⟨hS0, hS1⟩ := hSw; go_simp; try with_reducible rfl
                try go_simp
                refine wpAnyH_done (by kernel_rfl) ?_ _
                have hb3 : Below V2.heap.size V2 V2.drew := below_drawn (Below.refl _ _)
                have hs3 := HS2.out.below hb3
                have hk3 := HK2.out.below hb3
                have ht3 := HTX2.out.below hb3
                obtain ⟨V3, hV3⟩ : ∃ V3, V2.drew = V3 := ⟨_, rfl⟩
                rw [hV3] at hs3 hk3 ht3 ⊢
                have c7 := hk3.cell 7 rfl
                have f7 := hk3.frozen ⟨pk, 7, none⟩ rfl
                have c14 := hs3.hq.cell 14 rfl
                have f14 := hs3.hq.frozen ⟨w.heap.size, 14, none⟩ rfl
                have zk3 := hk3.lt
                have HS3 := Lib.hid hs3
                have HK3 := Lib.hid hk3
                have HTX3 := Lib.hid ht3
                clear hs3 hk3 ht3 hb3 hV3 HS2 HK2 HTX2 HRX2
                rw [HMK.out] at c7
                have hbm' : decide (Du.rnd s' < 2 * k) = bm := hbm
                have HS4 := Lib.hid (RSt.other (HS3.out.seed s1) (grown_set (V3.setCell ⟨w.heap.size, 14, none⟩ (.int .u64 (s1 : Int))) ⟨pk, 7, none⟩ (.bool bm)) zq0 HAP.out)
                have htx4 := HTX3.out.kept (grown_set V3 ⟨w.heap.size, 14, none⟩ (.int .u64 (s1 : Int))) (fun ad e => by rw [← hb'] at e; split at e <;> (injection e with e; subst e; exact hgx6))
                have HTX4 := Lib.hid (htx4.kept (grown_set (V3.setCell ⟨w.heap.size, 14, none⟩ (.int .u64 (s1 : Int))) ⟨pk, 7, none⟩ (.bool bm)) (fun ad e => by rw [← hb'] at e; split at e <;> (injection e with e; subst e; exact hgp)))
                clear htx4
                have HK4 := Lib.hid ((HK3.out.kept (grown_set V3 ⟨w.heap.size, 14, none⟩ (.int .u64 (s1 : Int))) (fun e => by injection e with e; simp only at e; omega)).set 7 (.bool bm))
                go_wp2_with fail
                refine (HRB.out _).mono ?_
                rintro e w4 ⟨rfl, rfl⟩
                go_wp2_with (first | (refine wpList_copy_new rfl (.tmp 173) (.tmp 175) rfl rfl rfl (HTX4.out.below (by exact (by repeat (first | exact Below.refl _ _ | refine below_set ?_ (by first | omega | (simp; done) | (simp; omega)) _ | refine below_drawnN ?_ _ | refine below_drawn ?_ | refine below_new ?_ _)))) (by omega) ?_; intro a4 d4 V5 hown hb5; have hB5 : Below ((V3.setCell ⟨w.heap.size, 14, none⟩ (.int .u64 (s1 : Int))).setCell ⟨pk, 7, none⟩ (.bool bm)).heap.size ((V3.setCell ⟨w.heap.size, 14, none⟩ (.int .u64 (s1 : Int))).setCell ⟨pk, 7, none⟩ (.bool bm)) V5 := below_on (by exact (by repeat (first | exact Below.refl _ _ | refine below_set ?_ (by first | omega | (simp; done) | (simp; omega)) _ | refine below_drawnN ?_ _ | refine below_drawn ?_ | refine below_new ?_ _))) hb5; have HS5 := Lib.hid ((HS4.out.below hB5).list1 (hown.mono (base' := w.heap.size + 3) (by simp; omega))); have HK5 := Lib.hid (HK4.out.below hB5); clear hB5 hb5 hown))
                have hs4 := HS5.out
                have hk4 := HK5.out
                obtain ⟨V4, rfl⟩ : ∃ V4, V4 = V5 := ⟨_, rfl⟩
                have HS4 := Lib.hid hs4
                have HK4 := Lib.hid hk4
                have hz4 := hs4.hp.lt
                clear hs4 hk4
                refine wp_region_held_drew (S := (fun V => V.rangeAt w.heap.size 0 (dqList A B room (some ⟨ab, ao, none⟩) lc (row + 1) v7 s1) ∧ V.rangeAt (pk) 0 (pktList { x.p with marked := bm }))) (by kernel_rfl) ?_ (fun hHeld => ?_)
                · exact ⟨(HS4.out.hq.below (below_drawn (Below.refl _ _))).range, (HK4.out.below (below_drawn (Below.refl _ _))).range⟩
                refine wpAnyH_take (i := 0) (v := (.agg (dqList A B room (some ⟨ab, ao, none⟩) lc (row + 1) v7 s1).toArray)) rfl (by kernel_rfl) (by kernel_rfl) (by kernel_rfl) (fun _ _ _ h => h) (yieldsIf_load_mid (by rfl) 28 _ rfl w.heap.size 0 rfl (dqList A B room (some ⟨ab, ao, none⟩) lc (row + 1) v7 s1) _ (fun _ h => h.1) Tryd.underlying28 rfl (by kernel_rfl)) hHeld ?_
                try go_simp
                refine wpAnyH_take (i := 6) (v := (.agg (pktList { x.p with marked := bm }).toArray)) rfl (by kernel_rfl) (by kernel_rfl) (by kernel_rfl) (fun _ _ _ h => h) (yieldsIf_load_mid (by rfl) 30 _ rfl (pk) 0 rfl (pktList { x.p with marked := bm }) _ (fun _ h => h.2) Tryd.underlying30 rfl (by kernel_rfl)) hHeld ?_
                try go_simp
                refine wpAnyH_take (i := 1) (v := ?_) rfl (by kernel_rfl) (by kernel_rfl) (by kernel_rfl) (fun _ _ _ h => h) (Or.inl ⟨by rfl, ?_⟩) hHeld ?_
                rotate_left
                · intro wS hSw; obtain ⟨hS0, hS1⟩ := hSw; go_simp; try with_reducible rfl
                try go_simp
                refine wpAnyH_take (i := 2) (v := ?_) rfl (by kernel_rfl) (by kernel_rfl) (by kernel_rfl) (fun _ _ _ h => h) (Or.inl ⟨by rfl, ?_⟩) hHeld ?_
                rotate_left
                · intro wS hSw; obtain ⟨hS0, hS1⟩ := hSw; go_simp; try with_reducible rfl
                try go_simp
                refine wpAnyH_take (i := 4) (v := ?_) rfl (by kernel_rfl) (by kernel_rfl) (by kernel_rfl) (fun _ _ _ h => h) (Or.inl ⟨by rfl, ?_⟩) hHeld ?_
                rotate_left
                · intro wS hSw; obtain ⟨hS0, hS1⟩ := hSw; go_simp; try with_reducible rfl
                try go_simp
                refine wpAnyH_take (i := 7) (v := ?_) rfl (by kernel_rfl) (by kernel_rfl) (by kernel_rfl) (fun _ _ _ h => h) (Or.inl ⟨by rfl, ?_⟩) hHeld ?_
                rotate_left
                · intro wS hSw; obtain ⟨hS0, hS1⟩ := hSw; go_simp; try with_reducible rfl
                try go_simp
                refine wpAnyH_ready (rs := [3]) (by kernel_rfl) (by simp) ?_
                refine AllReadyH.cons rfl (fun K hK => ?_) AllReadyH.nil
                go_simp
                have hA : Below V4.heap.size V4 (V4.alloc (.cells ([(.slice a4 (n1 - 1) d4), (.slice (some ⟨g, o, none⟩) n3 d3)] : List Value).toArray 49)).drew := below_drawn (below_new (Below.refl _ _) _)
                have hhd := (Blk.new V4 ([(.slice a4 (n1 - 1) d4), (.slice (some ⟨g, o, none⟩) n3 d3)] : List Value).toArray 49).below (below_drawn (Below.refl _ _))
                obtain ⟨hd, ehd⟩ : ∃ z, V4.heap.size = z := ⟨_, rfl⟩
                rw [ehd] at hhd ⊢
                have lhd : w.heap.size + 2 < hd := by omega
                clear ehd
                refine hK.out _ _ ?_ (fun hHeld => ?_)
                · exact ⟨rangeAt_below hHeld.1 (below_new (Below.refl _ _) _), rangeAt_below hHeld.2 (below_new (Below.refl _ _) _)⟩
                clear hK K
                try go_simp
                refine wpAnyH_ready (rs := [5]) (by kernel_rfl) (by simp) ?_
                refine AllReadyH.cons rfl (fun K hK => ?_) AllReadyH.nil
                go_simp
                refine (with_any 6 A B 0 room (some ⟨ab, ao, none⟩) 2 lc (row + 1) 0 0 0 0 0 0 v7 s1 (some ⟨hd, 0, none⟩) 2 2 now _).mono ?_
                rintro e W5 ⟨rfl, hbc⟩
                have hA := below_on hA hbc
                have hhd := hhd.below hbc
                have hs5 := HS4.out.below hA
                refine hK.out _ _ ?_ (fun hHeld => ?_)
                · exact ⟨rangeAt_below hHeld.1 hbc, rangeAt_below hHeld.2 hbc⟩
                clear hK K
                try go_simp
                refine wpAnyH_ready (rs := [8]) (by kernel_rfl) (by simp) ?_
                refine AllReadyH.cons rfl (fun K hK => ?_) AllReadyH.nil
                refine ready_store_blk (by rfl) _ 28 _ _ rfl (w.heap.size + 1) zeroDQ (dqList A B room (some ⟨hd, 0, none⟩) 2 (row + 1) now s1) rfl rfl hs5.hz (by kernel_rfl) rfl (dqList_one _ _ _ _ _ _ _ _) ?_
                intro V6 hq6 hg6
                have hp6 := hs5.hp.kept hg6 (fun e => by injection e with e; omega)
                refine hK.out _ _ ?_ (fun hHeld => ?_)
                · exact ⟨rangeAt_kept hHeld.1 hg6 (fun e => by injection e with e; omega), rangeAt_kept hHeld.2 hg6 (fun e => by injection e with e; omega)⟩
                clear hK K
                try go_simp
                refine wpAnyH_ready (rs := [9]) (by kernel_rfl) (by simp) ?_
                refine AllReadyH.cons rfl (fun K hK => ?_) AllReadyH.nil
                refine ready_store_blk (by rfl) _ 30 _ _ rfl (w.heap.size + 1 + 1) zeroP (pktList { x.p with marked := bm }) rfl rfl hp6 (by kernel_rfl) rfl (pktList_one _) ?_
                intro V7 hp7 hg7
                refine hK.out _ _ ?_ (fun hHeld => ?_)
                · exact ⟨rangeAt_kept hHeld.1 hg7 (fun e => by injection e with e; omega), rangeAt_kept hHeld.2 hg7 (fun e => by injection e with e; omega)⟩
                clear hK K
                try go_simp
                refine wpAnyH_take (i := 10) (v := ?_) rfl (by kernel_rfl) (by kernel_rfl) (by kernel_rfl) (fun _ _ _ h => h) (Or.inl ⟨by rfl, ?_⟩) hHeld ?_
                rotate_left
                · intro wS hSw; obtain ⟨hS0, hS1⟩ := hSw; go_simp; try with_reducible rfl
                try go_simp
                refine wpAnyH_take (i := 11) (v := ?_) rfl (by kernel_rfl) (by kernel_rfl) (by kernel_rfl) (fun _ _ _ h => h) (Or.inl ⟨by rfl, ?_⟩) hHeld ?_
                rotate_left
                · intro wS hSw; obtain ⟨hS0, hS1⟩ := hSw; go_simp; try with_reducible rfl
                try go_simp
                refine wpAnyH_take (i := 12) (v := ?_) rfl (by kernel_rfl) (by kernel_rfl) (by kernel_rfl) (fun _ _ _ h => h) (Or.inl ⟨by rfl, ?_⟩) hHeld ?_
                rotate_left
                · intro wS hSw; obtain ⟨hS0, hS1⟩ := hSw; go_simp; try with_reducible rfl
                try go_simp
                refine wpAnyH_done (by kernel_rfl) ?_ _
                go_wp2
                obtain ⟨hB, hQ, hR⟩ := rt_end (row := (row + 1)) hs5 hg6 hg7 hhd lhd (HOK.out.move h0 h1 (by omega) (by omega) (Or.inr rfl) (Or.inl rfl))
                refine bodyPost_ret (results_cc111 Tryd.results15 rfl rfl (run_loadVar_mid _ (w.heap.size + 1) 0 28 (dqList A B room (some ⟨hd, 0, none⟩) 2 (row + 1) now s1) _ (hq6.kept hg7 (fun e => by injection e with e; omega)).range Tryd.underlying28 rfl (by kernel_rfl)) (run_loadVar_mid _ (w.heap.size + 1 + 1) 0 30 (pktList { x.p with marked := bm }) _ hp7.range Tryd.underlying30 rfl (by kernel_rfl))) rfl ?_
                rw [HTK.out]
                exact ⟨hd, 0, 2, a4, d4, some ⟨g, o, none⟩, d3, da, dc, rfl, hB, by rw [hlx, List.length_cons, show yt.length + 1 = n3 by omega]; exact hQ, hR⟩
end Go.Proofs.YtdecclklenaoaaaDoor
