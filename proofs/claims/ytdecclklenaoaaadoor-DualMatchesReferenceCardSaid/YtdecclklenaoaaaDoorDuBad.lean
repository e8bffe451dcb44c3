/- Calls of package dual with a queue, a packet or a time that is not valid. -/
import Derived.Test.YtdecclklenaoaaaDoorDuQ
namespace Go.Proofs.YtdecclklenaoaaaDoor
open Go.RowKit

/-- Lists of at most 600 packets. -/
def RdLs6 (w : World) (la : Option Addr) (ln : Nat) : Prop := RdLs w la ln ∧ ∀ i ad a n c, i < ln → la = some ad → w.cell? (ad.add i) = some (.slice a n c) → n ≤ 600
theorem RdLs6.below {w V : World} {la : Option Addr} {ln : Nat} (h : RdLs6 w la ln) (hb : Below w.heap.size w V) : RdLs6 V la ln :=
  ⟨h.1.below hb, fun i ad a n c hi e hc => by
    obtain ⟨ad', a', n', c', xs', e', hc', _, _⟩ := h.1 i hi
    rw [e] at e'
    injection e' with e'
    subst e'
    have h4 := (below_cell_of hb hc').symm.trans hc
    injection h4 with h4
    injection h4 with _ h5 _
    subst h5
    exact h.2 i ad _ _ _ hi e hc'⟩
theorem VOk2.onto {w V : World} {kind A B C room : Int} {la : Option Addr} {ln : Nat} {v0 v1 v2 v3 v4 v5 v6 v7 : Int} (hb : Below w.heap.size w V) (h : VOk2 w kind A B C room la ln v0 v1 v2 v3 v4 v5 v6 v7) : VOk2 V kind A B C room la ln v0 v1 v2 v3 v4 v5 v6 v7 := by
  obtain ⟨e1, e2, z1, z2, z3, z4, z5, z6, e3, ab, ao, a1, n1, c1, xs, a2, n2, c2, ys, e, hq⟩ := h
  exact ⟨e1, e2, z1, z2, z3, z4, z5, z6, e3, ab, ao, a1, n1, c1, xs, a2, n2, c2, ys, e, hq.below hb⟩
theorem dvalid_any (kind A B C room : Int) (la : Option Addr) (ln lc : Nat) (v0 v1 v2 v3 v4 v5 v6 v7 : Int) (s : Nat) (w : World) (hL : RdLs6 w la ln) :
    Calls Tryd.prog 18 #[.agg #[.int .i64 kind, .int .i64 A, .int .i64 B, .int .i64 C, .int .i64 room, .slice la ln lc, .int .i64 v0, .int .i64 v1, .int .i64 v2, .int .i64 v3, .int .i64 v4, .int .i64 v5, .int .i64 v6, .int .i64 v7, .int .u64 (s : Int)]] w fun e w' => SaysIff w (VOk2 w kind A B C room la ln v0 v1 v2 v3 v4 v5 v6 v7) e w' := by
  by_cases hsh : kind = 6 ∧ 0 ≤ A ∧ A ≤ 1000000 ∧ 0 ≤ B ∧ B ≤ 1000 ∧ C = 0 ∧ 1 ≤ room ∧ room ≤ 500 ∧ (ln : Int) = 2
  · obtain ⟨rfl, p0, p1, p2, p3, rfl, p4, p5, hln⟩ := hsh
    obtain rfl : ln = 2 := by omega
    obtain ⟨ab, ao, a1, n1, c1, xs, a2, n2, c2, ys, rfl, h1, h2, r1, r2⟩ := hL.1.two
    have s1 := hL.2 0 _ a1 n1 c1 (by omega) rfl (by rw [ad_add_zero]; exact h1)
    have s2 := hL.2 1 _ a2 n2 c2 (by omega) rfl (by simpa [Addr.add] using h2)
    refine (dvalid_two A B room ab ao lc v0 v1 v2 v3 v4 v5 v6 v7 s w a1 n1 c1 xs a2 n2 c2 ys h1 h2 r1 r2 (by omega) (by omega) p0 p1 p2 p3 p4 p5).mono ?_
    rintro e V ⟨⟨b, rfl, hb⟩, hV⟩
    refine ⟨⟨b, rfl, fun h => ?_, fun h => ?_⟩, hV⟩
    · obtain ⟨z1, z2, z3, z4, z5, z6, q0, q7, ql, l1, l2⟩ := hb.1 h
      have e1 := (listD_iff q7.2).1 l1
      have e2 := (listD_iff q7.2).1 l2
      exact ⟨rfl, rfl, z1, z2, z3, z4, z5, z6, rfl, ab, ao, a1, n1, c1, xs, a2, n2, c2, ys, rfl, h1, h2, r1, r2, p0, p1, p2, p3, p4, p5, q0.1, q0.2, q7.1, q7.2, by rw [r1.1, r2.1]; exact ql, e1.1, e2.1, e1.2, e2.2⟩
    · obtain ⟨_, _, z1, z2, z3, z4, z5, z6, _, ab', ao', a1', n1', c1', xs', a2', n2', c2', ys', e, hq⟩ := h
      injection e with e
      injection e with e1 e2
      subst e1 e2
      have g1 := h1.symm.trans hq.h1
      have g2 := h2.symm.trans hq.h2
      injection g1 with g1
      injection g1 with g11 g12 g13
      injection g2 with g2
      injection g2 with g21 g22 g23
      subst g11 g12 g13 g21 g22 g23
      obtain rfl := rdQ_unique r1 hq.r1
      obtain rfl := rdQ_unique r2 hq.r2
      have k := hq.ok
      exact hb.2 ⟨z1, z2, z3, z4, z5, z6, ⟨k.m0, k.m1⟩, ⟨k.t0, k.t1⟩, by rw [← r1.1, ← r2.1]; exact k.len, (listD_iff k.t1).2 ⟨k.lx, k.ax⟩, (listD_iff k.t1).2 ⟨k.ly, k.ay⟩⟩
  · refine (dvalid_no kind A B C room la ln lc v0 v1 v2 v3 v4 v5 v6 v7 s w hsh).mono ?_
    rintro e V ⟨rfl, hV⟩
    refine ⟨⟨false, rfl, (fun h => by cases h), fun h => ?_⟩, hV⟩
    obtain ⟨rfl, rfl, _, _, _, _, _, _, rfl, ab, ao, a1, n1, c1, xs, a2, n2, c2, ys, rfl, hq⟩ := h
    have k := hq.ok
    exact absurd ⟨rfl, k.a0, k.a1, k.b0, k.b1, rfl, k.r0, k.r1, rfl⟩ hsh
set_option maxRecDepth 100000 in
set_option maxHeartbeats 4000000 in
theorem dopen_bad (kind A B C room : Int) (la : Option Addr) (ln lc : Nat) (v0 v1 v2 v3 v4 v5 v6 v7 : Int) (s : Nat) (w : World) (hL : RdLs6 w la ln) (now : Int) (hbad : ¬ (VOk2 w kind A B C room la ln v0 v1 v2 v3 v4 v5 v6 v7 ∧ 0 ≤ now ∧ now ≤ 10000000)) :
    Calls Tryd.prog 30 #[.agg #[.int .i64 kind, .int .i64 A, .int .i64 B, .int .i64 C, .int .i64 room, .slice la ln lc, .int .i64 v0, .int .i64 v1, .int .i64 v2, .int .i64 v3, .int .i64 v4, .int .i64 v5, .int .i64 v6, .int .i64 v7, .int .u64 (s : Int)], .int .i64 now] w fun e V => e = .returned (.tuple #[.pointer none, .int .i64 1]) ∧ Below w.heap.size w V := by
  have HL := Lib.hid hL
  have HBAD := Lib.hid hbad
  clear hL hbad
  go_enter Tryd.func30, Tryd.ntmps30
  go_wp2_with fail
  refine (dvalid_any kind A B C room la ln lc v0 v1 v2 v3 v4 v5 v6 v7 s _ (HL.out.below (below_new (Below.refl w.heap.size w) (.cells #[.int .i64 kind, .int .i64 A, .int .i64 B, .int .i64 C, .int .i64 room, .slice la ln lc, .int .i64 v0, .int .i64 v1, .int .i64 v2, .int .i64 v3, .int .i64 v4, .int .i64 v5, .int .i64 v6, .int .i64 v7, .int .u64 (s : Int)] 28)))).mono ?_
  rintro e w1 ⟨⟨b1, rfl, hv⟩, hb1⟩
  have HB1 := Lib.hid (below_on (below_new (Below.refl w.heap.size w) _) hb1)
  have HV := Lib.hid hv
  clear hb1 hv
  cases b1 with
  | false =>
    go_wp2
    go_ret2
    exact ⟨rfl, HB1.out⟩
  | true =>
    have HV2 := Lib.hid (VOk2.back HL.out.1 (below_new (Below.refl w.heap.size w) _) (HV.out.1 rfl))
    have hnt : decide (0 ≤ now ∧ now ≤ 10000000) = false := decide_eq_false fun h => HBAD.out ⟨HV2.out, h⟩
    have HNT := Lib.hid hnt
    clear hnt
    go_wp2_with fail
    refine (isTime_any now _).mono ?_
    rw [HNT.out]
    rintro e w2 ⟨rfl, rfl⟩
    go_wp2
    go_ret2
    exact ⟨rfl, HB1.out⟩
set_option maxRecDepth 100000 in
set_option maxHeartbeats 4000000 in
theorem take_bad (kind A B C room : Int) (la : Option Addr) (ln lc : Nat) (v0 v1 v2 v3 v4 v5 v6 v7 : Int) (s : Nat) (w : World) (hL : RdLs6 w la ln) (now : Int) (hbad : ¬ (VOk2 w kind A B C room la ln v0 v1 v2 v3 v4 v5 v6 v7 ∧ 0 ≤ now ∧ now ≤ 10000000)) :
    Calls Tryd.prog 14 #[.agg #[.int .i64 kind, .int .i64 A, .int .i64 B, .int .i64 C, .int .i64 room, .slice la ln lc, .int .i64 v0, .int .i64 v1, .int .i64 v2, .int .i64 v3, .int .i64 v4, .int .i64 v5, .int .i64 v6, .int .i64 v7, .int .u64 (s : Int)], .int .i64 now] w fun e V => e = .returned (.tuple #[.agg zeroDQ.toArray, pktVal default, .bool false, .slice none 0 0, .int .i64 1]) ∧ Below w.heap.size w V := by
  have HL := Lib.hid hL
  have HBAD := Lib.hid hbad
  clear hL hbad
  go_enter Tryd.func14, Tryd.ntmps14
  go_wp2
  go_step3
  go_wp2_with fail
  have hbz := below_new (below_new (below_new (Below.refl w.heap.size w) (.cells #[.int .i64 kind, .int .i64 A, .int .i64 B, .int .i64 C, .int .i64 room, .slice la ln lc, .int .i64 v0, .int .i64 v1, .int .i64 v2, .int .i64 v3, .int .i64 v4, .int .i64 v5, .int .i64 v6, .int .i64 v7, .int .u64 (s : Int)] 28)) (.cells zeroDQ.toArray 28)) (.cells zeroP.toArray 30)
  refine (dopen_bad kind A B C room la ln lc v0 v1 v2 v3 v4 v5 v6 v7 s _ (HL.out.below hbz) now (fun h => HBAD.out ⟨VOk2.back HL.out.1 hbz h.1, h.2⟩)).mono ?_
  rintro e w1 ⟨rfl, hb1⟩
  have HB1 := Lib.hid (below_on hbz hb1)
  have HZ1 := Lib.hid (((blk_new_at (w.alloc (.cells #[.int .i64 kind, .int .i64 A, .int .i64 B, .int .i64 C, .int .i64 room, .slice la ln lc, .int .i64 v0, .int .i64 v1, .int .i64 v2, .int .i64 v3, .int .i64 v4, .int .i64 v5, .int .i64 v6, .int .i64 v7, .int .u64 (s : Int)] 28)) zeroDQ.toArray 28 (g := w.heap.size + 1) (by simp only [World.size_alloc])).below (below_new (Below.refl _ _) (.cells zeroP.toArray 30))).below hb1)
  have HP1 := Lib.hid ((blk_new_at ((w.alloc (.cells #[.int .i64 kind, .int .i64 A, .int .i64 B, .int .i64 C, .int .i64 room, .slice la ln lc, .int .i64 v0, .int .i64 v1, .int .i64 v2, .int .i64 v3, .int .i64 v4, .int .i64 v5, .int .i64 v6, .int .i64 v7, .int .u64 (s : Int)] 28)).alloc (.cells zeroDQ.toArray 28)) zeroP.toArray 30 (g := w.heap.size + 1 + 1) (by simp only [World.size_alloc])).below hb1)
  clear hb1 hbz
  go_wp2_with (first | (refine wpList_store_blk rfl 28 _ _ rfl (w.heap.size + 1) zeroDQ zeroDQ rfl rfl HZ1.out (by kernel_rfl) rfl (by decide) ?_; intro V7 hq7 hg7; have HP7 := Lib.hid (HP1.out.kept hg7 (by simp)); have HQ7 := Lib.hid hq7; have HG7 := Lib.hid hg7; clear hq7 hg7) | (refine wpList_store_blk rfl 30 _ _ rfl (w.heap.size + 1 + 1) zeroP (pktList default) rfl rfl HP7.out (by kernel_rfl) rfl (pktList_one _) ?_; intro V8 hp8 hg8))
  try rw [Exit.noGoto_ret]
  refine bodyPost_ret (results_cc111 Tryd.results14 rfl rfl (run_loadVar_mid _ (w.heap.size + 1) 0 28 zeroDQ _ (HQ7.out.kept hg8 (by simp)).range Tryd.underlying28 rfl (by kernel_rfl)) (run_loadVar_mid _ (w.heap.size + 1 + 1) 0 30 (pktList default) _ hp8.range Tryd.underlying30 rfl (by kernel_rfl))) rfl ?_
  exact ⟨rfl, below_grown (below_grown HB1.out HG7.out (fun k hk => by injection hk with hk; omega)) hg8 (fun k hk => by injection hk with hk; omega)⟩
set_option maxRecDepth 100000 in
set_option maxHeartbeats 4000000 in
theorem put_bad (kind A B C room : Int) (la : Option Addr) (ln lc : Nat) (v0 v1 v2 v3 v4 v5 v6 v7 : Int) (s : Nat) (w : World) (hL : RdLs6 w la ln) (p : Ea.Pkt) (now : Int) (hbad : ¬ (p.ok ∧ VOk2 w kind A B C room la ln v0 v1 v2 v3 v4 v5 v6 v7 ∧ 0 ≤ now ∧ now ≤ 10000000)) :
    Calls Tryd.prog 12 #[.agg #[.int .i64 kind, .int .i64 A, .int .i64 B, .int .i64 C, .int .i64 room, .slice la ln lc, .int .i64 v0, .int .i64 v1, .int .i64 v2, .int .i64 v3, .int .i64 v4, .int .i64 v5, .int .i64 v6, .int .i64 v7, .int .u64 (s : Int)], pktVal p, .int .i64 now] w fun e V => e = .returned (.tuple #[.agg zeroDQ.toArray, .slice none 0 0, .int .i64 1]) ∧ Below w.heap.size w V := by
  have HL := Lib.hid hL
  have HBAD := Lib.hid hbad
  clear hL hbad
  obtain ⟨bp, hbp⟩ : ∃ b, decide p.ok = b := ⟨_, rfl⟩
  have HBP := Lib.hid hbp
  clear hbp
  go_enter Tryd.func12, Tryd.ntmps12
  go_wp2_with fail
  have hbz := below_new (below_new (below_new (Below.refl w.heap.size w) (.cells #[.int .i64 kind, .int .i64 A, .int .i64 B, .int .i64 C, .int .i64 room, .slice la ln lc, .int .i64 v0, .int .i64 v1, .int .i64 v2, .int .i64 v3, .int .i64 v4, .int .i64 v5, .int .i64 v6, .int .i64 v7, .int .u64 (s : Int)] 28)) (.cells (pktList p).toArray 30)) (.cells zeroDQ.toArray 28)
  refine (isPacket_any p _).mono ?_
  rw [HBP.out]
  rintro e w1 ⟨rfl, hb1⟩
  have HB1 := Lib.hid (below_on hbz hb1)
  have HQ1 := Lib.hid (((Blk.new w #[.int .i64 kind, .int .i64 A, .int .i64 B, .int .i64 C, .int .i64 room, .slice la ln lc, .int .i64 v0, .int .i64 v1, .int .i64 v2, .int .i64 v3, .int .i64 v4, .int .i64 v5, .int .i64 v6, .int .i64 v7, .int .u64 (s : Int)] 28).below (below_new (below_new (Below.refl _ _) (.cells (pktList p).toArray 30)) (.cells zeroDQ.toArray 28))).below hb1)
  have HZ1 := Lib.hid ((blk_new_at ((w.alloc (.cells #[.int .i64 kind, .int .i64 A, .int .i64 B, .int .i64 C, .int .i64 room, .slice la ln lc, .int .i64 v0, .int .i64 v1, .int .i64 v2, .int .i64 v3, .int .i64 v4, .int .i64 v5, .int .i64 v6, .int .i64 v7, .int .u64 (s : Int)] 28)).alloc (.cells (pktList p).toArray 30)) zeroDQ.toArray 28 (g := w.heap.size + 1 + 1) (by simp only [World.size_alloc])).below hb1)
  clear hb1 hbz
  cases bp with
  | false =>
    go_wp2_with (first | (refine wpList_store_blk rfl 28 _ _ rfl (w.heap.size + 1 + 1) zeroDQ zeroDQ rfl rfl HZ1.out (by kernel_rfl) rfl (by decide) ?_; intro V7 hq7 hg7))
    refine bodyPost_ret (results_c11 Tryd.results12 rfl (run_loadVar_mid _ (w.heap.size + 1 + 1) 0 28 zeroDQ _ hq7.range Tryd.underlying28 rfl (by kernel_rfl))) rfl ?_
    exact ⟨rfl, below_grown HB1.out hg7 (fun k hk => by injection hk with hk; omega)⟩
  | true =>
    go_wp2_with (refine wpList_load_mid rfl 28 _ rfl w.heap.size 0 rfl [.int .i64 kind, .int .i64 A, .int .i64 B, .int .i64 C, .int .i64 room, .slice la ln lc, .int .i64 v0, .int .i64 v1, .int .i64 v2, .int .i64 v3, .int .i64 v4, .int .i64 v5, .int .i64 v6, .int .i64 v7, .int .u64 (s : Int)] _ HQ1.out.range Tryd.underlying28 rfl (by kernel_rfl) ?_)
    refine (dopen_bad kind A B C room la ln lc v0 v1 v2 v3 v4 v5 v6 v7 s _ (HL.out.below HB1.out) now (fun h => HBAD.out ⟨of_decide_eq_true HBP.out, VOk2.back HL.out.1 HB1.out h.1, h.2⟩)).mono ?_
    rintro e w2 ⟨rfl, hb2⟩
    have HB2 := Lib.hid (below_on HB1.out hb2)
    have HZ2 := Lib.hid (HZ1.out.below hb2)
    clear hb2
    go_wp2_with (first | (refine wpList_store_blk rfl 28 _ _ rfl (w.heap.size + 1 + 1) zeroDQ zeroDQ rfl rfl HZ2.out (by kernel_rfl) rfl (by decide) ?_; intro V7 hq7 hg7))
    refine bodyPost_ret (results_c11 Tryd.results12 rfl (run_loadVar_mid _ (w.heap.size + 1 + 1) 0 28 zeroDQ _ hq7.range Tryd.underlying28 rfl (by kernel_rfl))) rfl ?_
    exact ⟨rfl, below_grown HB2.out hg7 (fun k hk => by injection hk with hk; omega)⟩
end Go.Proofs.YtdecclklenaoaaaDoor
