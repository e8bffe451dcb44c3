/- The statement DualPressure: it returns true, whatever the input, and leaves what was in memory alone. -/
import Derived.Test.YtdecclklenaoaaaDoorDuHeadB
import Derived.Test.YtdecclklenaoaaaDoorDuPressL
import Derived.Test.YtdecclklenaoaaaDoorEaPar
namespace Go.Proofs.YtdecclklenaoaaaDoor
open Go.RowKit

set_option maxRecDepth 100000 in
set_option maxHeartbeats 4000000 in
theorem rpress_any {w : World} {A B room : Int} {ab ao : Nat} {v0 v7 : Int} {a1 : Option Addr} {n1 c1 : Nat} {xs : List Ea.Item} {a2 : Option Addr} {n2 c2 : Nat} {ys : List Ea.Item} (hq : QIn w A B room ab ao v0 v7 a1 n1 c1 xs a2 n2 c2 ys) (lc : Nat) (s : Nat) (now : Int) (h0 : v7 ≤ now) (h1 : now ≤ 10000000) :
    Calls Tryd.prog 24 #[.agg #[.int .i64 6, .int .i64 A, .int .i64 B, .int .i64 0, .int .i64 room, .slice (some ⟨ab, ao, none⟩) 2 lc, .int .i64 v0, .int .i64 0, .int .i64 0, .int .i64 0, .int .i64 0, .int .i64 0, .int .i64 0, .int .i64 v7, .int .u64 (s : Int)], .int .i64 now] w fun e V => e = .returned (.int .i64 (Du.press B now ys)) ∧ Below w.heap.size w V := by
  have hc1 := hq.h1
  have hc2 := hq.h2
  have hl := hq.r2.1
  have hA2 : ∀ o, (w.alloc o).cell? ⟨ab, ao + 1, none⟩ = some (.slice a2 n2 c2) := fun o => below_cell_of (below_new (Below.refl _ _) _) hc2
  have HQ := Lib.hid hq
  clear hq hc1 hc2
  rcases Nat.eq_zero_or_pos n2 with hz | hz
  · subst hz
    have e0 : Du.press B now ys = 0 := by unfold Du.press; rw [if_pos hl]
    rw [e0]
    go_enter Tryd.func24, Tryd.ntmps24
    go_wp2
    go_ret
    exact ⟨rfl, below_new (Below.refl _ _) _⟩
  · obtain ⟨b, o, rfl, hr⟩ := HQ.out.r2.2 0 hz
    have hk := hr 8 _ rfl
    change w.cell? _ = some (.int .i64 (ys.getD 0 default).since) at hk
    have hg := HQ.out.ok.ly 0 (by omega)
    have b0 := HQ.out.ok.b0
    have b1 := HQ.out.ok.b1
    have d0 := hg.low
    have d1 : (ys.getD 0 default).since ≤ now := Int.le_trans hg.high h0
    have hy : ¬ ys.length = 0 := by omega
    have HP : RowKit.Hid (Du.press B now ys = if 1000000 < B * (now - (ys.getD 0 default).since) then 1000000 else B * (now - (ys.getD 0 default).since)) := Lib.hid (by unfold Du.press; rw [if_neg hy])
    obtain ⟨z, hz'⟩ : ∃ z, (ys.getD 0 default).since = z := ⟨_, rfl⟩
    rw [hz'] at hk HP d0 d1
    have hm := Du.mul_bd b0 b1 (show 0 ≤ now - z by omega) (by omega)
    have e1 : IntKind.i64.wrap (now - z) = now - z := by rw [IntKind.wrap_i64]; omega
    have e2 : IntKind.i64.wrap (B * (now - z)) = B * (now - z) := by
      generalize B * (now - z) = z at hm ⊢
      rw [IntKind.wrap_i64]
      omega
    have hnz : ((n2 : Int) == 0) = false := by simp; omega
    have hA8 : ∀ o', (w.alloc o').cell? ⟨b, o + 8, none⟩ = some (.int .i64 z) := fun o' => below_cell_of (below_new (Below.refl _ _) _) (by rw [Nat.zero_mul, Nat.add_zero] at hk; exact hk)
    clear hr hk hg hz' hy hl
    go_enter Tryd.func24, Tryd.ntmps24
    go_wp2
    go_quiet (fail)
    go_wp2
    all_goals
      go_ret
      refine ⟨?_, below_drawnN (below_new (Below.refl _ _) _) _⟩
      rw [HP.out]
      clear e1 e2 HP hA8 hA2
      generalize B * (now - z) = y at *
      split <;> first | rfl | (exact ret_int (by omega))
set_option maxRecDepth 100000 in
set_option maxHeartbeats 8000000 in
theorem press_entry (kind A B C room : Int) (la : Option Addr) (ln lc : Nat) (v0 v1 v2 v3 v4 v5 v6 v7 : Int) (s : Nat) (now : Int) (W : World) (hL : RdLs W la ln) (hln : (ln : Int) ≤ 9223372036854775807) (ht : Table W) :
    Calls Tryd.prog 7 #[.agg #[.int .i64 kind, .int .i64 A, .int .i64 B, .int .i64 C, .int .i64 room, .slice la ln lc, .int .i64 v0, .int .i64 v1, .int .i64 v2, .int .i64 v3, .int .i64 v4, .int .i64 v5, .int .i64 v6, .int .i64 v7, .int .u64 (s : Int)], .int .i64 now] W fun e V => e = .returned (.bool true) ∧ Below W.heap.size W V := by
  have HL := Lib.hid hL
  have HT := Lib.hid ht
  clear hL ht
  go_enter Tryd.func7, Tryd.ntmps7
  go_wp2_with fail
  refine (head_ok _ (table_below HT.out (by exact below_new (Below.refl _ _) _))).mono ?_
  rintro e w1 ⟨rfl, hb1⟩
  have HB1 := Lib.hid (below_on (w := W) (by exact below_new (Below.refl _ _) _) hb1)
  have HQ1 : RowKit.Hid (Blk w1 W.heap.size [.int .i64 kind, .int .i64 A, .int .i64 B, .int .i64 C, .int .i64 room, .slice la ln lc, .int .i64 v0, .int .i64 v1, .int .i64 v2, .int .i64 v3, .int .i64 v4, .int .i64 v5, .int .i64 v6, .int .i64 v7, .int .u64 (s : Int)]) := Lib.hid ((Blk.new W #[.int .i64 kind, .int .i64 A, .int .i64 B, .int .i64 C, .int .i64 room, .slice la ln lc, .int .i64 v0, .int .i64 v1, .int .i64 v2, .int .i64 v3, .int .i64 v4, .int .i64 v5, .int .i64 v6, .int .i64 v7, .int .u64 (s : Int)] 28).below hb1)
  clear hb1
  go_wp2_with (refine wpList_load_mid rfl 28 _ rfl W.heap.size 0 rfl [.int .i64 kind, .int .i64 A, .int .i64 B, .int .i64 C, .int .i64 room, .slice la ln lc, .int .i64 v0, .int .i64 v1, .int .i64 v2, .int .i64 v3, .int .i64 v4, .int .i64 v5, .int .i64 v6, .int .i64 v7, .int .u64 (s : Int)] _ HQ1.out.range Tryd.underlying28 rfl (by kernel_rfl) ?_)
  refine (usable_any kind A B C room la ln lc v0 v1 v2 v3 v4 v5 v6 v7 s now w1 (HL.out.below HB1.out) hln).mono ?_
  rintro e w2 ⟨⟨b, rfl, hus⟩, hb2⟩
  have HUS := Lib.hid hus
  have HB2 := Lib.hid (below_on HB1.out hb2)
  have HQ2 := Lib.hid (HQ1.out.below hb2)
  have HB12 := Lib.hid hb2
  clear hus hb2 HQ1
  cases b with
  | false =>
    go_wp2
    go_ret
    exact ⟨rfl, HB2.out⟩
  | true =>
    obtain ⟨⟨rfl, rfl, rfl, rfl, rfl, rfl, rfl, rfl, rfl, ab, ao, a1, n1, c1, xs, a2, n2, c2, ys, rfl, hq⟩, t0, t1, t2⟩ := HUS.out rfl
    have HIN := Lib.hid (hq.below HB12.out)
    have HOK := Lib.hid hq.ok
    have HTB := Lib.hid (table_below HT.out HB2.out)
    have hl1 := hq.r1.1
    have hl2 := hq.r2.1
    have hsh := hq.ok.short
    have HQ2 : RowKit.Hid (Blk w2 W.heap.size (dqList A B room (some ⟨ab, ao, none⟩) lc v0 v7 s)) := HQ2
    have hzq := HQ2.out.lt
    clear hq HUS HB12 HB1 HL
    obtain ⟨xs1, ys1, r1, s1, got1, dr1, ho1⟩ : ∃ xs1 ys1 r1 s1 got1 dr1, Du.take A B now xs ys v0 s [] = ⟨xs1, ys1, r1, s1, got1, dr1⟩ := ⟨_, _, _, _, _, _, rfl⟩
    obtain ⟨p1, hp1⟩ : ∃ p, got1.getD default = p := ⟨_, rfl⟩
    obtain ⟨i1, hi1⟩ : ∃ i, got1.isSome = i := ⟨_, rfl⟩
    obtain ⟨m1, hm1⟩ : ∃ m, dr1.length = m := ⟨_, rfl⟩
    obtain ⟨k1, hk1⟩ : ∃ m, ys1.length = m := ⟨_, rfl⟩
    have hkb := Du.press_bd (B := B) (now := now) (ys := ys) HOK.out.b0 (fun h => Int.le_trans (HOK.out.ly 0 h).high t0)
    obtain ⟨k, hk⟩ : ∃ k, Du.press B now ys = k := ⟨_, rfl⟩
    rw [hk] at hkb
    have hlow : k < 1000 → m1 = 0 := fun h => by
      have := Du.take_low (A := A) (row := v0) (xs := xs) (s := s) (by rw [hk]; exact hkb.1) (by rw [hk]; exact h)
      rw [ho1] at this
      simp only at this
      rw [← hm1, this]
      rfl
    have hfull : k = 1000000 → ∃ y yt, ys = y :: yt := fun h => by
      cases ys with
      | nil => have e : Du.press B now [] = 0 := rfl; rw [e] at hk; omega
      | cons y yt => exact ⟨y, yt, rfl⟩
    have HLOW := Lib.hid hlow
    have HFULL := Lib.hid hfull
    have HO1 := Lib.hid ho1
    have HP1' := Lib.hid hp1
    have HI1 := Lib.hid hi1
    have HM1 := Lib.hid hm1
    have HK1 := Lib.hid hk1
    have HK := Lib.hid hk
    clear hlow hfull ho1 hp1 hi1 hm1 hk1 hk
    go_wp2_with (first | (refine wpList_load_mid rfl 28 _ rfl W.heap.size 0 rfl (dqList A B room (some ⟨ab, ao, none⟩) lc v0 v7 s) _ (HQ2.out.below (by exact (by repeat (first | exact Below.refl _ _ | refine below_drawnN ?_ _ | refine below_drawn ?_ | refine below_new ?_ _)))).range Tryd.underlying28 rfl (by kernel_rfl) ?_))
    refine (rpress_any HIN.out lc s now t0 t2).mono ?_
    rw [HK.out]
    rintro e V0 ⟨rfl, hb0⟩
    have HB3 := Lib.hid (below_on HB2.out hb0)
    have HQ3 := Lib.hid (HQ2.out.below hb0)
    have HIN3 := Lib.hid (HIN.out.below hb0)
    have HTB3 := Lib.hid (table_below HTB.out hb0)
    clear hb0 HB2 HQ2 HIN HTB hzq
    go_wp2_with (first | (refine wpList_load_mid rfl 28 _ rfl W.heap.size 0 rfl (dqList A B room (some ⟨ab, ao, none⟩) lc v0 v7 s) _ (HQ3.out.below (by exact (by repeat (first | exact Below.refl _ _ | refine below_drawnN ?_ _ | refine below_drawn ?_ | refine below_new ?_ _)))).range Tryd.underlying28 rfl (by kernel_rfl) ?_))
    refine (take_r HIN3.out lc s HTB3.out now t0 t2 HO1.out p1 i1 HP1'.out HI1.out).mono ?_
    unfold TakeR
    rw [HM1.out, HK1.out]
    rintro e V2 ⟨g2, e3, f3, e4, f4, da2, dc2, rfl, hb, hqn, -, -, hdr⟩
    have hq2 := HQ3.out.below hb
    have hi2 := HIN3.out.below hb
    have HBE := Lib.hid (below_on HB3.out hb)
    have HKX := Lib.hid hi2.r1
    have HKY := Lib.hid hi2.r2
    have HDR := Lib.hid hdr
    have NN : ∀ o1 o2, Below V2.heap.size V2 ((V2.alloc o1).alloc o2) := fun o1 o2 => below_new (below_new (Below.refl _ _) _) _
    have c1' := fun o1 o2 => below_cell_of (NN o1 o2) hi2.h1
    have c2' := fun o1 o2 => below_cell_of (NN o1 o2) hi2.h2
    have q5 := fun o1 o2 => below_cell_of (NN o1 o2) (hq2.cell 5 rfl)
    have q6 := fun o1 o2 => below_cell_of (NN o1 o2) (hq2.cell 6 rfl)
    have n2' := fun o1 o2 => below_cell_of (NN o1 o2) hqn.h2
    have HNN := Lib.hid NN
    clear hb hqn hdr hq2 hi2 HB3 HQ3 HIN3 HTB3 NN
    by_cases hk1 : k < 1000
    · obtain rfl : m1 = 0 := HLOW.out hk1
      have d1 : decide (k < 1000) = true := decide_eq_true hk1
      go_wp2
      go_ret
      exact ⟨rfl, by repeat (first | exact HBE.out | refine below_drawnN ?_ _ | refine below_drawn ?_ | refine below_new ?_ _)⟩
    have d1 : decide (k < 1000) = false := decide_eq_false hk1
    by_cases hk2 : k < 1000000
    · have d2 : decide (k < 1000000) = true := decide_eq_true hk2
      go_wp2
      go_ret
      exact ⟨rfl, by repeat (first | exact HBE.out | refine below_drawnN ?_ _ | refine below_drawn ?_ | refine below_new ?_ _)⟩
    have d2 : decide (k < 1000000) = false := decide_eq_false hk2
    have hkk : k = 1000000 := by omega
    obtain ⟨y, yt, rfl⟩ := HFULL.out hkk
    have hn2 : 0 < n2 := by rw [← hl2]; simp
    by_cases hx : n1 = 0
    · have d3 : ((n1 : Int) == 0) = true := by simp; omega
      have hx0 : xs = [] := List.eq_nil_of_length_eq_zero (hl1.trans hx)
      obtain ⟨l, hl⟩ := Du.take_full (A := A) (row := v0) (s := s) (xs := xs) (HK.out.trans hkk) (Or.inl hx0)
      rw [HO1.out] at hl
      simp only at hl
      have hm1 : m1 = l.length + 1 := by rw [← HM1.out, hl]; rfl
      obtain ⟨da, dc, hda, hdr⟩ := HDR.out
      obtain ⟨db, do', hda', hrow⟩ := hdr 0 (by rw [hl]; simp)
      have hd1 : da2 = some ⟨db, do', none⟩ := (Value.slice.inj hda).1.trans hda'
      subst hd1
      clear hda hda'
      rw [hl] at hrow
      simp only [List.getD_cons_zero, Nat.zero_mul, Nat.add_zero] at hrow
      obtain ⟨yb, yo, rfl, hyr⟩ := HKY.out.2 0 hn2
      simp only [List.getD_cons_zero, Nat.zero_mul, Nat.add_zero] at hyr
      have z1 := fun o1 o2 => below_cell_of (HNN.out o1 o2) (hrow 1 _ rfl)
      have y1 := fun o1 o2 => below_cell_of (HNN.out o1 o2) (hyr 1 _ rfl)
      have z2 := fun o1 o2 => below_cell_of (HNN.out o1 o2) (hrow 2 _ rfl)
      have y2 := fun o1 o2 => below_cell_of (HNN.out o1 o2) (hyr 2 _ rfl)
      have z3 := fun o1 o2 => below_cell_of (HNN.out o1 o2) (hrow 3 _ rfl)
      have y3 := fun o1 o2 => below_cell_of (HNN.out o1 o2) (hyr 3 _ rfl)
      have z4 := fun o1 o2 => below_cell_of (HNN.out o1 o2) (hrow 4 _ rfl)
      have y4 := fun o1 o2 => below_cell_of (HNN.out o1 o2) (hyr 4 _ rfl)
      have z5 := fun o1 o2 => below_cell_of (HNN.out o1 o2) (hrow 5 _ rfl)
      have y5 := fun o1 o2 => below_cell_of (HNN.out o1 o2) (hyr 5 _ rfl)
      have z6 := fun o1 o2 => below_cell_of (HNN.out o1 o2) (hrow 6 _ rfl)
      have y6 := fun o1 o2 => below_cell_of (HNN.out o1 o2) (hyr 6 _ rfl)
      have z7 := fun o1 o2 => below_cell_of (HNN.out o1 o2) (hrow 7 _ rfl)
      have y7 := fun o1 o2 => below_cell_of (HNN.out o1 o2) (hyr 7 _ rfl)
      have z0 : ∀ o1 o2, ((V2.alloc o1).alloc o2).cell? ⟨db, do', none⟩ = some (.int .i64 y.p.flow) := fun o1 o2 => below_cell_of (HNN.out o1 o2) (hrow 0 _ rfl)
      have y0 : ∀ o1 o2, ((V2.alloc o1).alloc o2).cell? ⟨yb, yo, none⟩ = some (.int .i64 y.p.flow) := fun o1 o2 => below_cell_of (HNN.out o1 o2) (hyr 0 _ rfl)
      have dm : decide (1 ≤ (m1 : Int)) = true := decide_eq_true (by omega)
      have hm1' : 1 ≤ (m1 : Int) := by omega
      have hm1n : 0 < m1 := by omega
      clear hrow hyr hdr hl hm1
      go_wp2
      go_quiet (fail)
      go_wp2
      go_ret
      exact ⟨rfl, by repeat (first | exact HBE.out | refine below_drawnN ?_ _ | refine below_drawn ?_ | refine below_new ?_ _)⟩
    have d3 : ((n1 : Int) == 0) = false := by simp; omega
    by_cases h15 : v0 = 15
    · have d4 : (v0 == 15) = true := by simp; omega
      obtain ⟨l, hl⟩ := Du.take_full (A := A) (row := v0) (s := s) (xs := xs) (HK.out.trans hkk) (Or.inr (by omega))
      rw [HO1.out] at hl
      simp only at hl
      have hm1 : m1 = l.length + 1 := by rw [← HM1.out, hl]; rfl
      obtain ⟨da, dc, hda, hdr⟩ := HDR.out
      obtain ⟨db, do', hda', hrow⟩ := hdr 0 (by rw [hl]; simp)
      have hd1 : da2 = some ⟨db, do', none⟩ := (Value.slice.inj hda).1.trans hda'
      subst hd1
      clear hda hda'
      rw [hl] at hrow
      simp only [List.getD_cons_zero, Nat.zero_mul, Nat.add_zero] at hrow
      obtain ⟨yb, yo, rfl, hyr⟩ := HKY.out.2 0 hn2
      simp only [List.getD_cons_zero, Nat.zero_mul, Nat.add_zero] at hyr
      have z1 := fun o1 o2 => below_cell_of (HNN.out o1 o2) (hrow 1 _ rfl)
      have y1 := fun o1 o2 => below_cell_of (HNN.out o1 o2) (hyr 1 _ rfl)
      have z2 := fun o1 o2 => below_cell_of (HNN.out o1 o2) (hrow 2 _ rfl)
      have y2 := fun o1 o2 => below_cell_of (HNN.out o1 o2) (hyr 2 _ rfl)
      have z3 := fun o1 o2 => below_cell_of (HNN.out o1 o2) (hrow 3 _ rfl)
      have y3 := fun o1 o2 => below_cell_of (HNN.out o1 o2) (hyr 3 _ rfl)
      have z4 := fun o1 o2 => below_cell_of (HNN.out o1 o2) (hrow 4 _ rfl)
      have y4 := fun o1 o2 => below_cell_of (HNN.out o1 o2) (hyr 4 _ rfl)
      have z5 := fun o1 o2 => below_cell_of (HNN.out o1 o2) (hrow 5 _ rfl)
      have y5 := fun o1 o2 => below_cell_of (HNN.out o1 o2) (hyr 5 _ rfl)
      have z6 := fun o1 o2 => below_cell_of (HNN.out o1 o2) (hrow 6 _ rfl)
      have y6 := fun o1 o2 => below_cell_of (HNN.out o1 o2) (hyr 6 _ rfl)
      have z7 := fun o1 o2 => below_cell_of (HNN.out o1 o2) (hrow 7 _ rfl)
      have y7 := fun o1 o2 => below_cell_of (HNN.out o1 o2) (hyr 7 _ rfl)
      have z0 : ∀ o1 o2, ((V2.alloc o1).alloc o2).cell? ⟨db, do', none⟩ = some (.int .i64 y.p.flow) := fun o1 o2 => below_cell_of (HNN.out o1 o2) (hrow 0 _ rfl)
      have y0 : ∀ o1 o2, ((V2.alloc o1).alloc o2).cell? ⟨yb, yo, none⟩ = some (.int .i64 y.p.flow) := fun o1 o2 => below_cell_of (HNN.out o1 o2) (hyr 0 _ rfl)
      have dm : decide (1 ≤ (m1 : Int)) = true := decide_eq_true (by omega)
      have hm1' : 1 ≤ (m1 : Int) := by omega
      have hm1n : 0 < m1 := by omega
      clear hrow hyr hdr hl hm1
      go_wp2
      go_quiet (fail)
      go_wp2
      go_ret
      exact ⟨rfl, by repeat (first | exact HBE.out | refine below_drawnN ?_ _ | refine below_drawn ?_ | refine below_new ?_ _)⟩
    have d4 : (v0 == 15) = false := by simp; omega
    obtain ⟨x, xt, rfl⟩ : ∃ x l, xs = x :: l := by
      cases xs with
      | nil => exact absurd hl1.symm hx
      | cons x l => exact ⟨x, l, rfl⟩
    obtain ⟨xs', r', s', q, hq, hqa, hqm⟩ := Du.take_push (A := A) (s := s) (xs := xt) (HK.out.trans hkk) (show v0 < 15 by have := HOK.out.m1; omega) (HOK.out.ax.head)
    rw [HO1.out] at hq
    injection hq with e1 e2 e3 e4 e5 e6
    subst e5 e6
    obtain rfl : i1 = true := HI1.out.symm
    have hp : p1 = q := HP1'.out.symm
    subst hp
    obtain rfl : m1 = 0 := HM1.out.symm
    obtain rfl : k1 = n2 := by rw [← HK1.out, e2]; exact hl2
    go_wp2
    go_quiet (fail)
    go_wp2
    go_ret
    exact ⟨rfl, by repeat (first | exact HBE.out | refine below_drawnN ?_ _ | refine below_drawn ?_ | refine below_new ?_ _)⟩
end Go.Proofs.YtdecclklenaoaaaDoor
