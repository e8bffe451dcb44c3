/- first of package dual. -/
import Derived.Test.YtdecclklenaoaaaDoorDuServe
import Derived.Deep.RegionHeld
namespace Go.Proofs.YtdecclklenaoaaaDoor
open Go.RowKit

/-- Two results, of which the first lies in memory. -/
theorem results_c1 {P : Program} {fn : Func} {t : TypeId} {a i : Nat} (h : fn.results = #[.cell a t, .tmp i]) {tmps : Array Value} {w : World} {ad : Addr} {v : Value} (ha : tmps.getD a undef = .pointer (some ad)) (hl : (loadVar t ad).run P w = .ok v w) :
    (results fn tmps).run P w = .ok (.tuple #[v, tmps.getD i undef]) w := by
  unfold results
  rw [h]
  have ha' : tmps[a]?.getD undef = .pointer (some ad) := by simpa using ha
  simp [ha', asAddr, hl]
abbrev zeroP : List Value := [.int .i64 0, .int .i64 0, .int .i64 0, .int .i64 0, .int .i64 0, .int .i64 0, .bool false, .bool false]
/-- The first list is served: its packet, the list that is left. -/
def FirstSays (W : World) (g : Nat) (A B room : Int) (la : Option Addr) (lc : Nat) (v0 v7 : Int) (s : Nat) (b o n : Nat) (l2 : Value) (now : Int) (dr : Value) (p : Ea.Pkt) (e : Ending) (V : World) : Prop :=
  e = .returned (.tuple #[pktVal p, .bool true]) ∧ W.grownBy V (some g) ∧ ∃ a' c', Blk V g (pairList A B room la lc v0 v7 s (.slice a' (n - 1) c') l2 now dr) ∧ (n - 1 ≤ c' ∧ c' ≤ 100000) ∧ (0 < n - 1 → a' = some ⟨b, o + 9, none⟩)
/-- What the pressure is, whatever the pair's other cells are. -/
def PressSays (W : World) (g : Nat) (A B room : Int) (la : Option Addr) (lc : Nat) (v0 v7 : Int) (s : Nat) (l2 : Value) (now : Int) (dr : Value) (k : Int) : Prop :=
  ∀ V l1, W.grownBy V (some g) → Blk V g (pairList A B room la lc v0 v7 s l1 l2 now dr) → Calls Tryd.prog 45 #[.pointer (some ⟨g, 0, none⟩)] V fun e V' => e = .returned (.int .i64 k) ∧ Below V.heap.size V V'
set_option maxRecDepth 100000 in
set_option maxHeartbeats 4000000 in
theorem first_mark_more (W : World) (g : Nat) (A B room : Int) (la : Option Addr) (lc : Nat) (v0 v7 : Int) (s : Nat) (b o n c : Nat) (a2 : Option Addr) (n2 c2 : Nat) (now : Int) (dr : Value) (x : Ea.Item) (hp : Blk W g (pairList A B room la lc v0 v7 s (.slice (some ⟨b, o, none⟩) n c) (.slice a2 n2 c2) now dr)) (hr : W.rangeAt b o (itemList x)) (hbg : b ≠ g) (hn : 0 < n) (hc : n ≤ c) (hs : c ≤ 100000) (h2 : ((n2 : Int) == 0) = false) (m0 : 0 ≤ v0) (m1 : v0 ≤ 15) (d0 : 0 ≤ x.since) (d1 : x.since ≤ now) (d2 : now ≤ 10000000) (hm : A ≤ now - x.since) :
    Calls Tryd.prog 34 #[.pointer (some ⟨g, 0, none⟩)] W fun e V => FirstSays W g A B room la lc (v0 + 1) v7 s b o n (.slice a2 n2 c2) now dr { x.p with marked := true } e V := by
  have k6 := hp.cell 6 rfl
  have f6 := hp.frozen ⟨g, 6, none⟩ rfl
  have k16 := hp.cell 16 rfl
  have lt := hp.lt
  have e1 : IntKind.i64.wrap (v0 + 1) = v0 + 1 := by rw [IntKind.wrap_i64]; omega
  have e2 : IntKind.i64.wrap (now - x.since) = now - x.since := by rw [IntKind.wrap_i64]; omega
  have HP := Lib.hid hp
  have HR := Lib.hid hr
  clear hp hr
  go_enter Tryd.func34, Tryd.ntmps34
  go_wp2
  refine wp_region_still_tail 11 (by kernel_rfl) (by kernel_rfl) ?_
  simp only [List.take_succ_cons, List.take_zero, List.drop_succ_cons, List.drop_zero]
  change wpStill _ _ (World.drew _) _ _ _
  repeat still_step
  refine wpStill_nil ?_
  change wpList _ _ _ _ _ (World.drew _)
  go_wp2_with fail
  have h1 : Blk (((W.setCell ⟨g, 6, none⟩ (.int .i64 (v0 + 1))).alloc (.cells zeroP.toArray 30)).drew) g (pairList A B room la lc (v0 + 1) v7 s (.slice (some ⟨b, o, none⟩) n c) (.slice a2 n2 c2) now dr) := (HP.out.set 6 _).below (below_drawn (below_new (Below.refl _ _) _))
  have hg1 : W.grownBy (((W.setCell ⟨g, 6, none⟩ (.int .i64 (v0 + 1))).alloc (.cells zeroP.toArray 30)).drew) (some g) := grown_trans (grown_set W ⟨g, 6, none⟩ _) (grown_below (below_drawn (below_new (Below.refl _ _) _)) _)
  have hz1 : Blk (((W.setCell ⟨g, 6, none⟩ (.int .i64 (v0 + 1))).alloc (.cells zeroP.toArray 30)).drew) W.heap.size zeroP := (blk_new_at _ zeroP.toArray 30 (by simp only [World.size_setCell])).below (below_drawn (Below.refl _ _))
  have hr1 := rangeAt_kept HR.out hg1 (by simp; omega)
  refine (serve_0 (((W.setCell ⟨g, 6, none⟩ (.int .i64 (v0 + 1))).alloc (.cells zeroP.toArray 30)).drew) g A B room la lc (v0 + 1) v7 s b o n c (.slice a2 n2 c2) now dr x h1 hr1 hn hc hs).mono ?_
  rintro e V1 ⟨rfl, hg2, a', c', hp1, hc1, ha1⟩
  have HG1 := Lib.hid (grown_trans hg1 hg2)
  have HZ1 := Lib.hid (hz1.kept hg2 (by simp; omega))
  have hlt1 := HZ1.out.lt
  have HP1 := Lib.hid hp1
  have HA1 := Lib.hid ha1
  have q1 := hp1.cell 1 rfl
  have q17 := hp1.cell 17 rfl
  have hltg := hp1.lt
  clear h1 hg1 hz1 hr1 hg2 hp1 ha1 k6 f6 k16
  go_wp2_with (first | (refine wpList_store_new rfl 51 _ _ rfl _ (itemList x).toArray rfl rfl (by kernel_rfl) rfl rfl ?_))
  go_quiet (fail)
  go_wp2_with (first | (refine wpList_store_blk rfl 30 _ _ rfl W.heap.size zeroP (pktList { x.p with marked := true }) rfl rfl (Blk.kept (Blk.below HZ1.out (below_drawnN (below_new (Below.refl _ _) _) _)) (grown_set _ ⟨V1.heap.size, 7, none⟩ (.bool true)) (by simp; omega)) (by kernel_rfl) rfl (pktList_one _) ?_; intro V8 hp8 hg8))
  refine bodyPost_ret (results_c1 Tryd.results34 rfl (run_loadVar_mid _ W.heap.size 0 30 (pktList { x.p with marked := true }) _ hp8.range Tryd.underlying30 rfl (by kernel_rfl))) rfl ?_
  exact ⟨rfl, grown_new (grown_new (grown_trans HG1.out (grown_below (below_drawnN (below_new (Below.refl _ _) _) _) _)) (grown_set _ ⟨V1.heap.size, 7, none⟩ (.bool true)) (by simp only; have := HG1.out.size; omega)) hg8 (Nat.le_refl _), a', c', Blk.kept (Blk.kept (Blk.below HP1.out (below_drawnN (below_new (Below.refl _ _) _) _)) (grown_set _ ⟨V1.heap.size, 7, none⟩ (.bool true)) (by simp; omega)) hg8 (by simp; omega), hc1, HA1.out⟩
set_option maxRecDepth 100000 in
set_option maxHeartbeats 4000000 in
theorem first_mark_last (W : World) (g : Nat) (A B room : Int) (la : Option Addr) (lc : Nat) (v0 v7 : Int) (s : Nat) (b o n c : Nat) (a2 : Option Addr) (n2 c2 : Nat) (now : Int) (dr : Value) (x : Ea.Item) (hp : Blk W g (pairList A B room la lc v0 v7 s (.slice (some ⟨b, o, none⟩) n c) (.slice a2 n2 c2) now dr)) (hr : W.rangeAt b o (itemList x)) (hbg : b ≠ g) (hn : 0 < n) (hc : n ≤ c) (hs : c ≤ 100000) (h2 : ((n2 : Int) == 0) = true) (m0 : 0 ≤ v0) (m1 : v0 ≤ 15) (d0 : 0 ≤ x.since) (d1 : x.since ≤ now) (d2 : now ≤ 10000000) (hm : A ≤ now - x.since) :
    Calls Tryd.prog 34 #[.pointer (some ⟨g, 0, none⟩)] W fun e V => FirstSays W g A B room la lc 0 v7 s b o n (.slice a2 n2 c2) now dr { x.p with marked := true } e V := by
  have k6 := hp.cell 6 rfl
  have f6 := hp.frozen ⟨g, 6, none⟩ rfl
  have k16 := hp.cell 16 rfl
  have lt := hp.lt
  have e1 : IntKind.i64.wrap (v0 + 1) = v0 + 1 := by rw [IntKind.wrap_i64]; omega
  have e2 : IntKind.i64.wrap (now - x.since) = now - x.since := by rw [IntKind.wrap_i64]; omega
  have HP := Lib.hid hp
  have HR := Lib.hid hr
  clear hp hr
  go_enter Tryd.func34, Tryd.ntmps34
  go_wp2
  refine wp_region_still_tail 11 (by kernel_rfl) (by kernel_rfl) ?_
  simp only [List.take_succ_cons, List.take_zero, List.drop_succ_cons, List.drop_zero]
  change wpStill _ _ (World.drew _) _ _ _
  repeat still_step
  refine wpStill_nil ?_
  change wpList _ _ _ _ _ (World.drew _)
  go_wp2_with fail
  have h1 : Blk ((((W.setCell ⟨g, 6, none⟩ (.int .i64 (v0 + 1))).setCell ⟨g, 6, none⟩ (.int .i64 0)).alloc (.cells zeroP.toArray 30)).drew) g (pairList A B room la lc 0 v7 s (.slice (some ⟨b, o, none⟩) n c) (.slice a2 n2 c2) now dr) := ((HP.out.set 6 _).set 6 _).below (below_drawn (below_new (Below.refl _ _) _))
  have hg1 : W.grownBy ((((W.setCell ⟨g, 6, none⟩ (.int .i64 (v0 + 1))).setCell ⟨g, 6, none⟩ (.int .i64 0)).alloc (.cells zeroP.toArray 30)).drew) (some g) := grown_trans (grown_trans (grown_set W ⟨g, 6, none⟩ _) (grown_set _ ⟨g, 6, none⟩ _)) (grown_below (below_drawn (below_new (Below.refl _ _) _)) _)
  have hz1 : Blk ((((W.setCell ⟨g, 6, none⟩ (.int .i64 (v0 + 1))).setCell ⟨g, 6, none⟩ (.int .i64 0)).alloc (.cells zeroP.toArray 30)).drew) W.heap.size zeroP := (blk_new_at _ zeroP.toArray 30 (by simp only [World.size_setCell])).below (below_drawn (Below.refl _ _))
  have hr1 := rangeAt_kept HR.out hg1 (by simp; omega)
  refine (serve_0 ((((W.setCell ⟨g, 6, none⟩ (.int .i64 (v0 + 1))).setCell ⟨g, 6, none⟩ (.int .i64 0)).alloc (.cells zeroP.toArray 30)).drew) g A B room la lc 0 v7 s b o n c (.slice a2 n2 c2) now dr x h1 hr1 hn hc hs).mono ?_
  rintro e V1 ⟨rfl, hg2, a', c', hp1, hc1, ha1⟩
  have HG1 := Lib.hid (grown_trans hg1 hg2)
  have HZ1 := Lib.hid (hz1.kept hg2 (by simp; omega))
  have hlt1 := HZ1.out.lt
  have HP1 := Lib.hid hp1
  have HA1 := Lib.hid ha1
  have q1 := hp1.cell 1 rfl
  have q17 := hp1.cell 17 rfl
  have hltg := hp1.lt
  clear h1 hg1 hz1 hr1 hg2 hp1 ha1 k6 f6 k16
  go_wp2_with (first | (refine wpList_store_new rfl 51 _ _ rfl _ (itemList x).toArray rfl rfl (by kernel_rfl) rfl rfl ?_))
  go_quiet (fail)
  go_wp2_with (first | (refine wpList_store_blk rfl 30 _ _ rfl W.heap.size zeroP (pktList { x.p with marked := true }) rfl rfl (Blk.kept (Blk.below HZ1.out (below_drawnN (below_new (Below.refl _ _) _) _)) (grown_set _ ⟨V1.heap.size, 7, none⟩ (.bool true)) (by simp; omega)) (by kernel_rfl) rfl (pktList_one _) ?_; intro V8 hp8 hg8))
  refine bodyPost_ret (results_c1 Tryd.results34 rfl (run_loadVar_mid _ W.heap.size 0 30 (pktList { x.p with marked := true }) _ hp8.range Tryd.underlying30 rfl (by kernel_rfl))) rfl ?_
  exact ⟨rfl, grown_new (grown_new (grown_trans HG1.out (grown_below (below_drawnN (below_new (Below.refl _ _) _) _) _)) (grown_set _ ⟨V1.heap.size, 7, none⟩ (.bool true)) (by simp only; have := HG1.out.size; omega)) hg8 (Nat.le_refl _), a', c', Blk.kept (Blk.kept (Blk.below HP1.out (below_drawnN (below_new (Below.refl _ _) _) _)) (grown_set _ ⟨V1.heap.size, 7, none⟩ (.bool true)) (by simp; omega)) hg8 (by simp; omega), hc1, HA1.out⟩
set_option maxRecDepth 100000 in
set_option maxHeartbeats 4000000 in
theorem first_draw_more (W : World) (g : Nat) (A B room : Int) (la : Option Addr) (lc : Nat) (v0 v7 : Int) (s : Nat) (b o n c : Nat) (a2 : Option Addr) (n2 c2 : Nat) (now : Int) (dr : Value) (x : Ea.Item) (hp : Blk W g (pairList A B room la lc v0 v7 s (.slice (some ⟨b, o, none⟩) n c) (.slice a2 n2 c2) now dr)) (hr : W.rangeAt b o (itemList x)) (hbg : b ≠ g) (hn : 0 < n) (hc : n ≤ c) (hs : c ≤ 100000) (h2 : ((n2 : Int) == 0) = false) (m0 : 0 ≤ v0) (m1 : v0 ≤ 15) (d0 : 0 ≤ x.since) (d1 : x.since ≤ now) (d2 : now ≤ 10000000) (hm : now - x.since < A) (ht : ∀ V, W.grownBy V (some g) → Table V) (k : Int) (k0 : 0 ≤ k) (k1 : k ≤ 1000000) (hk : PressSays W g A B room la lc (v0 + 1) v7 s (.slice a2 n2 c2) now dr k) (bo : Bool) (hbo : decide (Du.rnd s < 2 * k) = bo) :
    Calls Tryd.prog 34 #[.pointer (some ⟨g, 0, none⟩)] W fun e V => FirstSays W g A B room la lc (v0 + 1) v7 (Rand.nextSeed s) b o n (.slice a2 n2 c2) now dr (if bo then { x.p with marked := true } else x.p) e V := by
  have k6 := hp.cell 6 rfl
  have f6 := hp.frozen ⟨g, 6, none⟩ rfl
  have k16 := hp.cell 16 rfl
  have lt := hp.lt
  have e1 : IntKind.i64.wrap (v0 + 1) = v0 + 1 := by rw [IntKind.wrap_i64]; omega
  have e2 : IntKind.i64.wrap (now - x.since) = now - x.since := by rw [IntKind.wrap_i64]; omega
  have HP := Lib.hid hp
  have HR := Lib.hid hr
  have hmb : decide (A ≤ now - x.since) = false := decide_eq_false (by omega)
  have e3 : IntKind.i64.wrap (2 * k) = 2 * k := by rw [IntKind.wrap_i64]; omega
  have HT := Lib.hid ht
  have HK := Lib.hid hk
  have HBO := Lib.hid hbo
  clear ht hk hbo
  clear hp hr
  go_enter Tryd.func34, Tryd.ntmps34
  go_wp2
  refine wp_region_still_tail 11 (by kernel_rfl) (by kernel_rfl) ?_
  simp only [List.take_succ_cons, List.take_zero, List.drop_succ_cons, List.drop_zero]
  change wpStill _ _ (World.drew _) _ _ _
  repeat still_step
  refine wpStill_nil ?_
  change wpList _ _ _ _ _ (World.drew _)
  go_wp2_with fail
  have h1 : Blk (((W.setCell ⟨g, 6, none⟩ (.int .i64 (v0 + 1))).alloc (.cells zeroP.toArray 30)).drew) g (pairList A B room la lc (v0 + 1) v7 s (.slice (some ⟨b, o, none⟩) n c) (.slice a2 n2 c2) now dr) := (HP.out.set 6 _).below (below_drawn (below_new (Below.refl _ _) _))
  have hg1 : W.grownBy (((W.setCell ⟨g, 6, none⟩ (.int .i64 (v0 + 1))).alloc (.cells zeroP.toArray 30)).drew) (some g) := grown_trans (grown_set W ⟨g, 6, none⟩ _) (grown_below (below_drawn (below_new (Below.refl _ _) _)) _)
  have hz1 : Blk (((W.setCell ⟨g, 6, none⟩ (.int .i64 (v0 + 1))).alloc (.cells zeroP.toArray 30)).drew) W.heap.size zeroP := (blk_new_at _ zeroP.toArray 30 (by simp only [World.size_setCell])).below (below_drawn (Below.refl _ _))
  have hr1 := rangeAt_kept HR.out hg1 (by simp; omega)
  refine (serve_0 (((W.setCell ⟨g, 6, none⟩ (.int .i64 (v0 + 1))).alloc (.cells zeroP.toArray 30)).drew) g A B room la lc (v0 + 1) v7 s b o n c (.slice a2 n2 c2) now dr x h1 hr1 hn hc hs).mono ?_
  rintro e V1 ⟨rfl, hg2, a', c', hp1, hc1, ha1⟩
  have HG1 := Lib.hid (grown_trans hg1 hg2)
  have HZ1 := Lib.hid (hz1.kept hg2 (by simp; omega))
  have hlt1 := HZ1.out.lt
  have HP1 := Lib.hid hp1
  have HA1 := Lib.hid ha1
  have q1 := hp1.cell 1 rfl
  have q17 := hp1.cell 17 rfl
  have hltg := hp1.lt
  clear h1 hg1 hz1 hr1 hg2 hp1 ha1 k6 f6 k16
  go_wp2_with (first | (refine wpList_store_new rfl 51 _ _ rfl _ (itemList x).toArray rfl rfl (by kernel_rfl) rfl rfl ?_))
  refine wp_region_held_drew (S := (fun V => V.cell? ⟨g, 17, none⟩ = some (.int .i64 now) ∧ V.cell? ⟨g, 1, none⟩ = some (.int .i64 A) ∧ V.cell? ⟨V1.heap.size, 8, none⟩ = some (.int .i64 x.since))) (by kernel_rfl) ?_ (fun hHeld => ?_)
  · exact ⟨(HP1.out.below (below_drawn (below_new (Below.refl _ _) _))).cell 17 rfl, (HP1.out.below (below_drawn (below_new (Below.refl _ _) _))).cell 1 rfl, ((Blk.new V1 (itemList x).toArray 51).below (below_drawn (Below.refl _ _))).cell 8 rfl⟩
  refine wpAnyH_take (i := 0) (v := ?_) rfl (by kernel_rfl) (by kernel_rfl) (by kernel_rfl) (fun _ _ _ h => h) (Or.inl ⟨by rfl, ?_⟩) hHeld ?_
  rotate_left
  · intro wS hSw; obtain ⟨hS0, hS1, hS2⟩ := hSw; go_simp; try with_reducible rfl
  try go_simp
  refine wpAnyH_take (i := 1) (v := ?_) rfl (by kernel_rfl) (by kernel_rfl) (by kernel_rfl) (fun _ _ _ h => h) (Or.inl ⟨by rfl, ?_⟩) hHeld ?_
  rotate_left
  · intro wS hSw; obtain ⟨hS0, hS1, hS2⟩ := hSw; go_simp; try with_reducible rfl
  try go_simp
  refine wpAnyH_take (i := 2) (v := ?_) rfl (by kernel_rfl) (by kernel_rfl) (by kernel_rfl) (fun _ _ _ h => h) (Or.inl ⟨by rfl, ?_⟩) hHeld ?_
  rotate_left
  · intro wS hSw; obtain ⟨hS0, hS1, hS2⟩ := hSw; go_simp; try with_reducible rfl
  try go_simp
  refine wpAnyH_take (i := 3) (v := ?_) rfl (by kernel_rfl) (by kernel_rfl) (by kernel_rfl) (fun _ _ _ h => h) (Or.inl ⟨by rfl, ?_⟩) hHeld ?_
  rotate_left
  · intro wS hSw; obtain ⟨hS0, hS1, hS2⟩ := hSw; go_simp; try with_reducible rfl
  try go_simp
  refine wpAnyH_take (i := 4) (v := ?_) rfl (by kernel_rfl) (by kernel_rfl) (by kernel_rfl) (fun _ _ _ h => h) (Or.inl ⟨by rfl, ?_⟩) hHeld ?_
  rotate_left
  · intro wS hSw; obtain ⟨hS0, hS1, hS2⟩ := hSw; go_simp; try with_reducible rfl
  try go_simp
  refine wpAnyH_take (i := 5) (v := ?_) rfl (by kernel_rfl) (by kernel_rfl) (by kernel_rfl) (fun _ _ _ h => h) (Or.inl ⟨by rfl, ?_⟩) hHeld ?_
  rotate_left
  · intro wS hSw; obtain ⟨hS0, hS1, hS2⟩ := hSw; go_simp; try with_reducible rfl
  try go_simp
  refine wpAnyH_take (i := 6) (v := ?_) rfl (by kernel_rfl) (by kernel_rfl) (by kernel_rfl) (fun _ _ _ h => h) (Or.inl ⟨by rfl, ?_⟩) hHeld ?_
  rotate_left
  · intro wS hSw; obtain ⟨hS0, hS1, hS2⟩ := hSw; go_simp; try with_reducible rfl
  try go_simp
  refine wpAnyH_take (i := 7) (v := ?_) rfl (by kernel_rfl) (by kernel_rfl) (by kernel_rfl) (fun _ _ _ h => h) (Or.inl ⟨by rfl, ?_⟩) hHeld ?_
  rotate_left
  · intro wS hSw; obtain ⟨hS0, hS1, hS2⟩ := hSw; go_simp; try with_reducible rfl
  try go_simp
  refine wpAnyH_take (i := 8) (v := ?_) rfl (by kernel_rfl) (by kernel_rfl) (by kernel_rfl) (fun _ _ _ h => h) (Or.inl ⟨by rfl, ?_⟩) hHeld ?_
  rotate_left
  · intro wS hSw; obtain ⟨hS0, hS1, hS2⟩ := hSw; go_simp; try with_reducible rfl
  try go_simp
  refine wpAnyH_take (i := 9) (v := ?_) rfl (by kernel_rfl) (by kernel_rfl) (by kernel_rfl) (fun _ _ _ h => h) (Or.inl ⟨by rfl, ?_⟩) hHeld ?_
  rotate_left
  · intro wS hSw; obtain ⟨hS0, hS1, hS2⟩ := hSw; go_simp; try with_reducible rfl
  try go_simp
  refine wpAnyH_take (i := 10) (v := ?_) rfl (by kernel_rfl) (by kernel_rfl) (by kernel_rfl) (fun _ _ _ h => h) (Or.inl ⟨by rfl, ?_⟩) hHeld ?_
  rotate_left
  · intro wS hSw; obtain ⟨hS0, hS1, hS2⟩ := hSw; go_simp; try with_reducible rfl
  try go_simp
  refine wpAnyH_take (i := 11) (v := ?_) rfl (by kernel_rfl) (by kernel_rfl) (by kernel_rfl) (fun _ _ _ h => h) (Or.inl ⟨by rfl, ?_⟩) hHeld ?_
  rotate_left
  · intro wS hSw; obtain ⟨hS0, hS1, hS2⟩ := hSw; go_simp; try with_reducible rfl
  try go_simp
  refine wpAnyH_take (i := 12) (v := ?_) rfl (by kernel_rfl) (by kernel_rfl) (by kernel_rfl) (fun _ _ _ h => h) (Or.inl ⟨by rfl, ?_⟩) hHeld ?_
  rotate_left
  · intro wS hSw; obtain ⟨hS0, hS1, hS2⟩ := hSw; go_simp; try with_reducible rfl
  try go_simp
  refine wpAnyH_take (i := 13) (v := ?_) rfl (by kernel_rfl) (by kernel_rfl) (by kernel_rfl) (fun _ _ _ h => h) (Or.inl ⟨by rfl, ?_⟩) hHeld ?_
  rotate_left
  · intro wS hSw; obtain ⟨hS0, hS1, hS2⟩ := hSw; go_simp; try with_reducible rfl
  try go_simp
  refine wpAnyH_take (i := 14) (v := ?_) rfl (by kernel_rfl) (by kernel_rfl) (by kernel_rfl) (fun _ _ _ h => h) (Or.inl ⟨by rfl, ?_⟩) hHeld ?_
  rotate_left
  · intro wS hSw; obtain ⟨hS0, hS1, hS2⟩ := hSw; go_simp; try with_reducible rfl
  try go_simp
  refine wpAnyH_take (i := 15) (v := ?_) rfl (by kernel_rfl) (by kernel_rfl) (by kernel_rfl) (fun _ _ _ h => h) (Or.inl ⟨by rfl, ?_⟩) hHeld ?_
  rotate_left
  · intro wS hSw; obtain ⟨hS0, hS1, hS2⟩ := hSw; go_simp; try with_reducible rfl
  try go_simp
  refine wpAnyH_take (i := 16) (v := ?_) rfl (by kernel_rfl) (by kernel_rfl) (by kernel_rfl) (fun _ _ _ h => h) (Or.inl ⟨by rfl, ?_⟩) hHeld ?_
  rotate_left
  · intro wS hSw; obtain ⟨hS0, hS1, hS2⟩ := hSw; go_simp; try with_reducible rfl
  try go_simp
  refine wpAnyH_ready (rs := [17]) (by kernel_rfl) (by simp) ?_
  refine AllReadyH.cons rfl (fun K hK => ?_) AllReadyH.nil
  go_simp
  have hg2 : W.grownBy ((V1.alloc (.cells (itemList x).toArray 51)).drew) (some g) := grown_trans HG1.out (grown_below (below_drawn (below_new (Below.refl _ _) _)) _)
  refine (HK.out _ _ hg2 (HP1.out.below (below_drawn (below_new (Below.refl _ _) _)))).mono ?_
  rintro e V2 ⟨rfl, hb2⟩
  have HG2 := Lib.hid (grown_trans hg2 (grown_below hb2 _))
  have HP2 := Lib.hid ((HP1.out.below (below_drawn (below_new (Below.refl _ _) _))).below hb2)
  have HZ2 := Lib.hid ((HZ1.out.below (below_drawn (below_new (Below.refl _ _) _))).below hb2)
  have HI2 := Lib.hid ((((Blk.new V1 (itemList x).toArray 51).below (below_drawn (Below.refl _ _)))).below hb2)
  have hz2 := HI2.out.lt
  clear hg2
  refine hK.out _ _ ?_ (fun hHeld => ?_)
  · exact ⟨HP2.out.cell 17 rfl, HP2.out.cell 1 rfl, HI2.out.cell 8 rfl⟩
  clear hK K
  try go_simp
  refine wpAnyH_take (i := 18) (v := ?_) rfl (by kernel_rfl) (by kernel_rfl) (by kernel_rfl) (fun _ _ _ h => h) (Or.inl ⟨by rfl, ?_⟩) hHeld ?_
  rotate_left
  · intro wS hSw; obtain ⟨hS0, hS1, hS2⟩ := hSw; go_simp; try with_reducible rfl
  try go_simp
  refine wpAnyH_ready (rs := [19]) (by kernel_rfl) (by simp) ?_
  refine AllReadyH.cons rfl (fun K hK => ?_) AllReadyH.nil
  go_simp
  refine (chance_any V2 g A B room la lc (v0 + 1) v7 s (.slice a' (n - 1) c') (.slice a2 n2 c2) now dr (2 * k) HP2.out (HT.out _ HG2.out)).mono ?_
  rw [HBO.out]
  rintro e V3 ⟨rfl, hg3, hp3⟩
  have HG3 := Lib.hid (grown_trans HG2.out hg3)
  have HP3 := Lib.hid hp3
  have HZ3 := Lib.hid (HZ2.out.kept hg3 (by simp; omega))
  have HI3 := Lib.hid (HI2.out.kept hg3 (by simp; omega))
  have hz3 := HI3.out.lt
  refine hK.out _ _ ?_ (fun hHeld => ?_)
  · exact ⟨HP3.out.cell 17 rfl, HP3.out.cell 1 rfl, HI3.out.cell 8 rfl⟩
  clear hK K
  try go_simp
  refine wpAnyH_take (i := 20) (v := ?_) rfl (by kernel_rfl) (by kernel_rfl) (by kernel_rfl) (fun _ _ _ h => h) (Or.inl ⟨by rfl, ?_⟩) hHeld ?_
  rotate_left
  · intro wS hSw; obtain ⟨hS0, hS1, hS2⟩ := hSw; go_simp; try with_reducible rfl
  try go_simp
  refine wpAnyH_done (by kernel_rfl) ?_ _
  cases bo with
  | true =>
    have i7 := HI3.out.cell 7 rfl
    have j7 := HI3.out.frozen ⟨V1.heap.size, 7, none⟩ rfl
    go_wp2_with (first | (refine wpList_load_mid rfl 30 _ rfl V1.heap.size 0 rfl (pktList { x.p with marked := true }) _ (range_mid [] _ [.int .i64 x.since] (Blk.range (HI3.out.set 7 (.bool true)))) Tryd.underlying30 rfl (by kernel_rfl) ?_) | (refine wpList_store_blk rfl 30 _ _ rfl W.heap.size zeroP (pktList { x.p with marked := true }) rfl rfl (Blk.kept HZ3.out (grown_set _ ⟨V1.heap.size, 7, none⟩ (.bool true)) (by simp; omega)) (by kernel_rfl) rfl (pktList_one _) ?_; intro V8 hp8 hg8))
    refine bodyPost_ret (results_c1 Tryd.results34 rfl (run_loadVar_mid _ W.heap.size 0 30 (pktList { x.p with marked := true }) _ hp8.range Tryd.underlying30 rfl (by kernel_rfl))) rfl ?_
    exact ⟨rfl, grown_new (grown_new HG3.out (grown_set _ ⟨V1.heap.size, 7, none⟩ (.bool true)) (by simp only; have := HG1.out.size; omega)) hg8 (Nat.le_refl _), a', c', Blk.kept (Blk.kept HP3.out (grown_set _ ⟨V1.heap.size, 7, none⟩ (.bool true)) (by simp; omega)) hg8 (by simp; omega), hc1, HA1.out⟩
  | false =>
    go_wp2_with (first | (refine wpList_load_mid rfl 30 _ rfl V1.heap.size 0 rfl (pktList x.p) _ (range_mid [] _ [.int .i64 x.since] (Blk.range HI3.out)) Tryd.underlying30 rfl (by kernel_rfl) ?_) | (refine wpList_store_blk rfl 30 _ _ rfl W.heap.size zeroP (pktList x.p) rfl rfl HZ3.out (by kernel_rfl) rfl (pktList_one _) ?_; intro V8 hp8 hg8))
    refine bodyPost_ret (results_c1 Tryd.results34 rfl (run_loadVar_mid _ W.heap.size 0 30 (pktList x.p) _ hp8.range Tryd.underlying30 rfl (by kernel_rfl))) rfl ?_
    exact ⟨rfl, grown_new HG3.out hg8 (Nat.le_refl _), a', c', Blk.kept HP3.out hg8 (by simp; omega), hc1, HA1.out⟩
set_option maxRecDepth 100000 in
set_option maxHeartbeats 4000000 in
theorem first_draw_last (W : World) (g : Nat) (A B room : Int) (la : Option Addr) (lc : Nat) (v0 v7 : Int) (s : Nat) (b o n c : Nat) (a2 : Option Addr) (n2 c2 : Nat) (now : Int) (dr : Value) (x : Ea.Item) (hp : Blk W g (pairList A B room la lc v0 v7 s (.slice (some ⟨b, o, none⟩) n c) (.slice a2 n2 c2) now dr)) (hr : W.rangeAt b o (itemList x)) (hbg : b ≠ g) (hn : 0 < n) (hc : n ≤ c) (hs : c ≤ 100000) (h2 : ((n2 : Int) == 0) = true) (m0 : 0 ≤ v0) (m1 : v0 ≤ 15) (d0 : 0 ≤ x.since) (d1 : x.since ≤ now) (d2 : now ≤ 10000000) (hm : now - x.since < A) (ht : ∀ V, W.grownBy V (some g) → Table V) (k : Int) (k0 : 0 ≤ k) (k1 : k ≤ 1000000) (hk : PressSays W g A B room la lc 0 v7 s (.slice a2 n2 c2) now dr k) (bo : Bool) (hbo : decide (Du.rnd s < 2 * k) = bo) :
    Calls Tryd.prog 34 #[.pointer (some ⟨g, 0, none⟩)] W fun e V => FirstSays W g A B room la lc 0 v7 (Rand.nextSeed s) b o n (.slice a2 n2 c2) now dr (if bo then { x.p with marked := true } else x.p) e V := by
  have k6 := hp.cell 6 rfl
  have f6 := hp.frozen ⟨g, 6, none⟩ rfl
  have k16 := hp.cell 16 rfl
  have lt := hp.lt
  have e1 : IntKind.i64.wrap (v0 + 1) = v0 + 1 := by rw [IntKind.wrap_i64]; omega
  have e2 : IntKind.i64.wrap (now - x.since) = now - x.since := by rw [IntKind.wrap_i64]; omega
  have HP := Lib.hid hp
  have HR := Lib.hid hr
  have hmb : decide (A ≤ now - x.since) = false := decide_eq_false (by omega)
  have e3 : IntKind.i64.wrap (2 * k) = 2 * k := by rw [IntKind.wrap_i64]; omega
  have HT := Lib.hid ht
  have HK := Lib.hid hk
  have HBO := Lib.hid hbo
  clear ht hk hbo
  clear hp hr
  go_enter Tryd.func34, Tryd.ntmps34
  go_wp2
  refine wp_region_still_tail 11 (by kernel_rfl) (by kernel_rfl) ?_
  simp only [List.take_succ_cons, List.take_zero, List.drop_succ_cons, List.drop_zero]
  change wpStill _ _ (World.drew _) _ _ _
  repeat still_step
  refine wpStill_nil ?_
  change wpList _ _ _ _ _ (World.drew _)
  go_wp2_with fail
  have h1 : Blk ((((W.setCell ⟨g, 6, none⟩ (.int .i64 (v0 + 1))).setCell ⟨g, 6, none⟩ (.int .i64 0)).alloc (.cells zeroP.toArray 30)).drew) g (pairList A B room la lc 0 v7 s (.slice (some ⟨b, o, none⟩) n c) (.slice a2 n2 c2) now dr) := ((HP.out.set 6 _).set 6 _).below (below_drawn (below_new (Below.refl _ _) _))
  have hg1 : W.grownBy ((((W.setCell ⟨g, 6, none⟩ (.int .i64 (v0 + 1))).setCell ⟨g, 6, none⟩ (.int .i64 0)).alloc (.cells zeroP.toArray 30)).drew) (some g) := grown_trans (grown_trans (grown_set W ⟨g, 6, none⟩ _) (grown_set _ ⟨g, 6, none⟩ _)) (grown_below (below_drawn (below_new (Below.refl _ _) _)) _)
  have hz1 : Blk ((((W.setCell ⟨g, 6, none⟩ (.int .i64 (v0 + 1))).setCell ⟨g, 6, none⟩ (.int .i64 0)).alloc (.cells zeroP.toArray 30)).drew) W.heap.size zeroP := (blk_new_at _ zeroP.toArray 30 (by simp only [World.size_setCell])).below (below_drawn (Below.refl _ _))
  have hr1 := rangeAt_kept HR.out hg1 (by simp; omega)
  refine (serve_0 ((((W.setCell ⟨g, 6, none⟩ (.int .i64 (v0 + 1))).setCell ⟨g, 6, none⟩ (.int .i64 0)).alloc (.cells zeroP.toArray 30)).drew) g A B room la lc 0 v7 s b o n c (.slice a2 n2 c2) now dr x h1 hr1 hn hc hs).mono ?_
  rintro e V1 ⟨rfl, hg2, a', c', hp1, hc1, ha1⟩
  have HG1 := Lib.hid (grown_trans hg1 hg2)
  have HZ1 := Lib.hid (hz1.kept hg2 (by simp; omega))
  have hlt1 := HZ1.out.lt
  have HP1 := Lib.hid hp1
  have HA1 := Lib.hid ha1
  have q1 := hp1.cell 1 rfl
  have q17 := hp1.cell 17 rfl
  have hltg := hp1.lt
  clear h1 hg1 hz1 hr1 hg2 hp1 ha1 k6 f6 k16
  go_wp2_with (first | (refine wpList_store_new rfl 51 _ _ rfl _ (itemList x).toArray rfl rfl (by kernel_rfl) rfl rfl ?_))
  refine wp_region_held_drew (S := (fun V => V.cell? ⟨g, 17, none⟩ = some (.int .i64 now) ∧ V.cell? ⟨g, 1, none⟩ = some (.int .i64 A) ∧ V.cell? ⟨V1.heap.size, 8, none⟩ = some (.int .i64 x.since))) (by kernel_rfl) ?_ (fun hHeld => ?_)
  · exact ⟨(HP1.out.below (below_drawn (below_new (Below.refl _ _) _))).cell 17 rfl, (HP1.out.below (below_drawn (below_new (Below.refl _ _) _))).cell 1 rfl, ((Blk.new V1 (itemList x).toArray 51).below (below_drawn (Below.refl _ _))).cell 8 rfl⟩
  refine wpAnyH_take (i := 0) (v := ?_) rfl (by kernel_rfl) (by kernel_rfl) (by kernel_rfl) (fun _ _ _ h => h) (Or.inl ⟨by rfl, ?_⟩) hHeld ?_
  rotate_left
  · intro wS hSw; obtain ⟨hS0, hS1, hS2⟩ := hSw; go_simp; try with_reducible rfl
  try go_simp
  refine wpAnyH_take (i := 1) (v := ?_) rfl (by kernel_rfl) (by kernel_rfl) (by kernel_rfl) (fun _ _ _ h => h) (Or.inl ⟨by rfl, ?_⟩) hHeld ?_
  rotate_left
  · intro wS hSw; obtain ⟨hS0, hS1, hS2⟩ := hSw; go_simp; try with_reducible rfl
  try go_simp
  refine wpAnyH_take (i := 2) (v := ?_) rfl (by kernel_rfl) (by kernel_rfl) (by kernel_rfl) (fun _ _ _ h => h) (Or.inl ⟨by rfl, ?_⟩) hHeld ?_
  rotate_left
  · intro wS hSw; obtain ⟨hS0, hS1, hS2⟩ := hSw; go_simp; try with_reducible rfl
  try go_simp
  refine wpAnyH_take (i := 3) (v := ?_) rfl (by kernel_rfl) (by kernel_rfl) (by kernel_rfl) (fun _ _ _ h => h) (Or.inl ⟨by rfl, ?_⟩) hHeld ?_
  rotate_left
  · intro wS hSw; obtain ⟨hS0, hS1, hS2⟩ := hSw; go_simp; try with_reducible rfl
  try go_simp
  refine wpAnyH_take (i := 4) (v := ?_) rfl (by kernel_rfl) (by kernel_rfl) (by kernel_rfl) (fun _ _ _ h => h) (Or.inl ⟨by rfl, ?_⟩) hHeld ?_
  rotate_left
  · intro wS hSw; obtain ⟨hS0, hS1, hS2⟩ := hSw; go_simp; try with_reducible rfl
  try go_simp
  refine wpAnyH_take (i := 5) (v := ?_) rfl (by kernel_rfl) (by kernel_rfl) (by kernel_rfl) (fun _ _ _ h => h) (Or.inl ⟨by rfl, ?_⟩) hHeld ?_
  rotate_left
  · intro wS hSw; obtain ⟨hS0, hS1, hS2⟩ := hSw; go_simp; try with_reducible rfl
  try go_simp
  refine wpAnyH_take (i := 6) (v := ?_) rfl (by kernel_rfl) (by kernel_rfl) (by kernel_rfl) (fun _ _ _ h => h) (Or.inl ⟨by rfl, ?_⟩) hHeld ?_
  rotate_left
  · intro wS hSw; obtain ⟨hS0, hS1, hS2⟩ := hSw; go_simp; try with_reducible rfl
  try go_simp
  refine wpAnyH_take (i := 7) (v := ?_) rfl (by kernel_rfl) (by kernel_rfl) (by kernel_rfl) (fun _ _ _ h => h) (Or.inl ⟨by rfl, ?_⟩) hHeld ?_
  rotate_left
  · intro wS hSw; obtain ⟨hS0, hS1, hS2⟩ := hSw; go_simp; try with_reducible rfl
  try go_simp
  refine wpAnyH_take (i := 8) (v := ?_) rfl (by kernel_rfl) (by kernel_rfl) (by kernel_rfl) (fun _ _ _ h => h) (Or.inl ⟨by rfl, ?_⟩) hHeld ?_
  rotate_left
  · intro wS hSw; obtain ⟨hS0, hS1, hS2⟩ := hSw; go_simp; try with_reducible rfl
  try go_simp
  refine wpAnyH_take (i := 9) (v := ?_) rfl (by kernel_rfl) (by kernel_rfl) (by kernel_rfl) (fun _ _ _ h => h) (Or.inl ⟨by rfl, ?_⟩) hHeld ?_
  rotate_left
  · intro wS hSw; obtain ⟨hS0, hS1, hS2⟩ := hSw; go_simp; try with_reducible rfl
  try go_simp
  refine wpAnyH_take (i := 10) (v := ?_) rfl (by kernel_rfl) (by kernel_rfl) (by kernel_rfl) (fun _ _ _ h => h) (Or.inl ⟨by rfl, ?_⟩) hHeld ?_
  rotate_left
  · intro wS hSw; obtain ⟨hS0, hS1, hS2⟩ := hSw; go_simp; try with_reducible rfl
  try go_simp
  refine wpAnyH_take (i := 11) (v := ?_) rfl (by kernel_rfl) (by kernel_rfl) (by kernel_rfl) (fun _ _ _ h => h) (Or.inl ⟨by rfl, ?_⟩) hHeld ?_
  rotate_left
  · intro wS hSw; obtain ⟨hS0, hS1, hS2⟩ := hSw; go_simp; try with_reducible rfl
  try go_simp
  refine wpAnyH_take (i := 12) (v := ?_) rfl (by kernel_rfl) (by kernel_rfl) (by kernel_rfl) (fun _ _ _ h => h) (Or.inl ⟨by rfl, ?_⟩) hHeld ?_
  rotate_left
  · intro wS hSw; obtain ⟨hS0, hS1, hS2⟩ := hSw; go_simp; try with_reducible rfl
  try go_simp
  refine wpAnyH_take (i := 13) (v := ?_) rfl (by kernel_rfl) (by kernel_rfl) (by kernel_rfl) (fun _ _ _ h => h) (Or.inl ⟨by rfl, ?_⟩) hHeld ?_
  rotate_left
  · intro wS hSw; obtain ⟨hS0, hS1, hS2⟩ := hSw; go_simp; try with_reducible rfl
  try go_simp
  refine wpAnyH_take (i := 14) (v := ?_) rfl (by kernel_rfl) (by kernel_rfl) (by kernel_rfl) (fun _ _ _ h => h) (Or.inl ⟨by rfl, ?_⟩) hHeld ?_
  rotate_left
  · intro wS hSw; obtain ⟨hS0, hS1, hS2⟩ := hSw; go_simp; try with_reducible rfl
  try go_simp
  refine wpAnyH_take (i := 15) (v := ?_) rfl (by kernel_rfl) (by kernel_rfl) (by kernel_rfl) (fun _ _ _ h => h) (Or.inl ⟨by rfl, ?_⟩) hHeld ?_
  rotate_left
  · intro wS hSw; obtain ⟨hS0, hS1, hS2⟩ := hSw; go_simp; try with_reducible rfl
  try go_simp
  refine wpAnyH_take (i := 16) (v := ?_) rfl (by kernel_rfl) (by kernel_rfl) (by kernel_rfl) (fun _ _ _ h => h) (Or.inl ⟨by rfl, ?_⟩) hHeld ?_
  rotate_left
  · intro wS hSw; obtain ⟨hS0, hS1, hS2⟩ := hSw; go_simp; try with_reducible rfl
  try go_simp
  refine wpAnyH_ready (rs := [17]) (by kernel_rfl) (by simp) ?_
  refine AllReadyH.cons rfl (fun K hK => ?_) AllReadyH.nil
  go_simp
  have hg2 : W.grownBy ((V1.alloc (.cells (itemList x).toArray 51)).drew) (some g) := grown_trans HG1.out (grown_below (below_drawn (below_new (Below.refl _ _) _)) _)
  refine (HK.out _ _ hg2 (HP1.out.below (below_drawn (below_new (Below.refl _ _) _)))).mono ?_
  rintro e V2 ⟨rfl, hb2⟩
  have HG2 := Lib.hid (grown_trans hg2 (grown_below hb2 _))
  have HP2 := Lib.hid ((HP1.out.below (below_drawn (below_new (Below.refl _ _) _))).below hb2)
  have HZ2 := Lib.hid ((HZ1.out.below (below_drawn (below_new (Below.refl _ _) _))).below hb2)
  have HI2 := Lib.hid ((((Blk.new V1 (itemList x).toArray 51).below (below_drawn (Below.refl _ _)))).below hb2)
  have hz2 := HI2.out.lt
  clear hg2
  refine hK.out _ _ ?_ (fun hHeld => ?_)
  · exact ⟨HP2.out.cell 17 rfl, HP2.out.cell 1 rfl, HI2.out.cell 8 rfl⟩
  clear hK K
  try go_simp
  refine wpAnyH_take (i := 18) (v := ?_) rfl (by kernel_rfl) (by kernel_rfl) (by kernel_rfl) (fun _ _ _ h => h) (Or.inl ⟨by rfl, ?_⟩) hHeld ?_
  rotate_left
  · intro wS hSw; obtain ⟨hS0, hS1, hS2⟩ := hSw; go_simp; try with_reducible rfl
  try go_simp
  refine wpAnyH_ready (rs := [19]) (by kernel_rfl) (by simp) ?_
  refine AllReadyH.cons rfl (fun K hK => ?_) AllReadyH.nil
  go_simp
  refine (chance_any V2 g A B room la lc 0 v7 s (.slice a' (n - 1) c') (.slice a2 n2 c2) now dr (2 * k) HP2.out (HT.out _ HG2.out)).mono ?_
  rw [HBO.out]
  rintro e V3 ⟨rfl, hg3, hp3⟩
  have HG3 := Lib.hid (grown_trans HG2.out hg3)
  have HP3 := Lib.hid hp3
  have HZ3 := Lib.hid (HZ2.out.kept hg3 (by simp; omega))
  have HI3 := Lib.hid (HI2.out.kept hg3 (by simp; omega))
  have hz3 := HI3.out.lt
  refine hK.out _ _ ?_ (fun hHeld => ?_)
  · exact ⟨HP3.out.cell 17 rfl, HP3.out.cell 1 rfl, HI3.out.cell 8 rfl⟩
  clear hK K
  try go_simp
  refine wpAnyH_take (i := 20) (v := ?_) rfl (by kernel_rfl) (by kernel_rfl) (by kernel_rfl) (fun _ _ _ h => h) (Or.inl ⟨by rfl, ?_⟩) hHeld ?_
  rotate_left
  · intro wS hSw; obtain ⟨hS0, hS1, hS2⟩ := hSw; go_simp; try with_reducible rfl
  try go_simp
  refine wpAnyH_done (by kernel_rfl) ?_ _
  cases bo with
  | true =>
    have i7 := HI3.out.cell 7 rfl
    have j7 := HI3.out.frozen ⟨V1.heap.size, 7, none⟩ rfl
    go_wp2_with (first | (refine wpList_load_mid rfl 30 _ rfl V1.heap.size 0 rfl (pktList { x.p with marked := true }) _ (range_mid [] _ [.int .i64 x.since] (Blk.range (HI3.out.set 7 (.bool true)))) Tryd.underlying30 rfl (by kernel_rfl) ?_) | (refine wpList_store_blk rfl 30 _ _ rfl W.heap.size zeroP (pktList { x.p with marked := true }) rfl rfl (Blk.kept HZ3.out (grown_set _ ⟨V1.heap.size, 7, none⟩ (.bool true)) (by simp; omega)) (by kernel_rfl) rfl (pktList_one _) ?_; intro V8 hp8 hg8))
    refine bodyPost_ret (results_c1 Tryd.results34 rfl (run_loadVar_mid _ W.heap.size 0 30 (pktList { x.p with marked := true }) _ hp8.range Tryd.underlying30 rfl (by kernel_rfl))) rfl ?_
    exact ⟨rfl, grown_new (grown_new HG3.out (grown_set _ ⟨V1.heap.size, 7, none⟩ (.bool true)) (by simp only; have := HG1.out.size; omega)) hg8 (Nat.le_refl _), a', c', Blk.kept (Blk.kept HP3.out (grown_set _ ⟨V1.heap.size, 7, none⟩ (.bool true)) (by simp; omega)) hg8 (by simp; omega), hc1, HA1.out⟩
  | false =>
    go_wp2_with (first | (refine wpList_load_mid rfl 30 _ rfl V1.heap.size 0 rfl (pktList x.p) _ (range_mid [] _ [.int .i64 x.since] (Blk.range HI3.out)) Tryd.underlying30 rfl (by kernel_rfl) ?_) | (refine wpList_store_blk rfl 30 _ _ rfl W.heap.size zeroP (pktList x.p) rfl rfl HZ3.out (by kernel_rfl) rfl (pktList_one _) ?_; intro V8 hp8 hg8))
    refine bodyPost_ret (results_c1 Tryd.results34 rfl (run_loadVar_mid _ W.heap.size 0 30 (pktList x.p) _ hp8.range Tryd.underlying30 rfl (by kernel_rfl))) rfl ?_
    exact ⟨rfl, grown_new HG3.out hg8 (Nat.le_refl _), a', c', Blk.kept HP3.out hg8 (by simp; omega), hc1, HA1.out⟩
end Go.Proofs.YtdecclklenaoaaaDoor
