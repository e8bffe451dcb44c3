/- The statement DualThreshold: it returns true, whatever the input, and leaves what was in memory alone. -/
import Derived.Test.YtdecclklenaoaaaDoorDuHeadB
import Derived.Test.YtdecclklenaoaaaDoorDuLaws
import Derived.Test.YtdecclklenaoaaaDoorEaPar
namespace Go.Proofs.YtdecclklenaoaaaDoor
open Go.RowKit

theorem rdQ_at0 {V : World} {a : Option Addr} {n : Nat} {x : Ea.Item} {xs : List Ea.Item} (h : RdQ V a n (x :: xs)) (hn : 0 < n) : ∃ b o, a = some ⟨b, o, none⟩ ∧ V.rangeAt b o (itemList x) := by
  obtain ⟨b, o, e, hr⟩ := h.2 0 hn
  rw [Nat.zero_mul, Nat.add_zero] at hr
  exact ⟨b, o, e, hr⟩
set_option maxRecDepth 100000 in
set_option maxHeartbeats 8000000 in
theorem thr_entry (kind A B C room : Int) (la : Option Addr) (ln lc : Nat) (v0 v1 v2 v3 v4 v5 v6 v7 : Int) (s : Nat) (now : Int) (W : World) (hL : RdLs W la ln) (hln : (ln : Int) ≤ 9223372036854775807) (ht : Table W) :
    Calls Tryd.prog 5 #[.agg #[.int .i64 kind, .int .i64 A, .int .i64 B, .int .i64 C, .int .i64 room, .slice la ln lc, .int .i64 v0, .int .i64 v1, .int .i64 v2, .int .i64 v3, .int .i64 v4, .int .i64 v5, .int .i64 v6, .int .i64 v7, .int .u64 (s : Int)], .int .i64 now] W fun e V => e = .returned (.bool true) ∧ Below W.heap.size W V := by
  have HL := Lib.hid hL
  have HT := Lib.hid ht
  clear hL ht
  go_enter Tryd.func5, Tryd.ntmps5
  go_wp2_with fail
  refine (head_ok _ (table_below HT.out (by exact below_new (Below.refl _ _) _))).mono ?_
  rintro e w1 ⟨rfl, hb1⟩
  have HB1 := Lib.hid (below_on (w := W) (by exact below_new (Below.refl _ _) _) hb1)
  have HQ1 : RowKit.Hid (Blk w1 W.heap.size [.int .i64 kind, .int .i64 A, .int .i64 B, .int .i64 C, .int .i64 room, .slice la ln lc, .int .i64 v0, .int .i64 v1, .int .i64 v2, .int .i64 v3, .int .i64 v4, .int .i64 v5, .int .i64 v6, .int .i64 v7, .int .u64 (s : Int)]) := Lib.hid ((Blk.new W #[.int .i64 kind, .int .i64 A, .int .i64 B, .int .i64 C, .int .i64 room, .slice la ln lc, .int .i64 v0, .int .i64 v1, .int .i64 v2, .int .i64 v3, .int .i64 v4, .int .i64 v5, .int .i64 v6, .int .i64 v7, .int .u64 (s : Int)] 28).below hb1)
  clear hb1
  go_wp2_with (refine wpList_load_mid rfl 28 _ rfl W.heap.size 0 rfl [.int .i64 kind, .int .i64 A, .int .i64 B, .int .i64 C, .int .i64 room, .slice la ln lc, .int .i64 v0, .int .i64 v1, .int .i64 v2, .int .i64 v3, .int .i64 v4, .int .i64 v5, .int .i64 v6, .int .i64 v7, .int .u64 (s : Int)] _ HQ1.out.range Tryd.underlying28 rfl (by kernel_rfl) ?_)
  refine (usable_any kind A B C room la ln lc v0 v1 v2 v3 v4 v5 v6 v7 s now w1 (HL.out.below HB1.out) hln).mono ?_
  rintro e w2 ⟨⟨b, rfl, hus⟩, hb2⟩
  have HUS := Lib.hid hus
  have HB2 := Lib.hid (below_on HB1.out hb2)
  have HQ2 := Lib.hid (HQ1.out.below hb2)
  have HB12 := Lib.hid hb2
  clear hus hb2 HQ1
  cases b with
  | false =>
    go_wp2
    go_ret
    exact ⟨rfl, HB2.out⟩
  | true =>
    obtain ⟨⟨rfl, rfl, rfl, rfl, rfl, rfl, rfl, rfl, rfl, ab, ao, a1, n1, c1, xs, a2, n2, c2, ys, rfl, hq⟩, t0, t1, t2⟩ := HUS.out rfl
    have HIN := Lib.hid (hq.below HB12.out)
    have HOK := Lib.hid hq.ok
    have HTB := Lib.hid (table_below HT.out HB2.out)
    have hl1 := hq.r1.1
    have hl2 := hq.r2.1
    have hsh := hq.ok.short
    have HQ2 : RowKit.Hid (Blk w2 W.heap.size (dqList A B room (some ⟨ab, ao, none⟩) lc v0 v7 s)) := HQ2
    have hzq := HQ2.out.lt
    clear hq HUS HB12 HB1 HL
    obtain ⟨xs1, ys1, r1, s1, got1, dr1, ho1⟩ : ∃ xs1 ys1 r1 s1 got1 dr1, Du.take A B now xs ys v0 s [] = ⟨xs1, ys1, r1, s1, got1, dr1⟩ := ⟨_, _, _, _, _, _, rfl⟩
    obtain ⟨xs2, ys2, r2, s2, got2, ho2, hn2, hc2⟩ := Du.take_free (A := A) (now := now) (row := v0) (s := s) HOK.out.ax HOK.out.ay
    obtain ⟨p1, hp1⟩ : ∃ p, got1.getD default = p := ⟨_, rfl⟩
    obtain ⟨i1, hi1⟩ : ∃ i, got1.isSome = i := ⟨_, rfl⟩
    obtain ⟨p2, hp2⟩ : ∃ p, got2.getD default = p := ⟨_, rfl⟩
    obtain ⟨i2, hi2⟩ : ∃ i, got2.isSome = i := ⟨_, rfl⟩
    have hm1 : i1 = true → p1.able = true → ∃ x xt, xs = x :: xt ∧ (A ≤ now - x.since → p1.marked = true) := fun h ha => by
      cases got1 with
      | none => rw [← hi1] at h; cases h
      | some q =>
        simp only [Option.getD_some] at hp1
        subst hp1
        exact Du.take_mark ys xs v0 s [] HOK.out.ay q (by rw [ho1]) ha
    have hm0 : xs = [] → ys = [] → i1 = false := fun e1 e2 => by
      subst e1 e2
      rw [Du.take] at ho1
      injection ho1 with _ _ _ _ h _
      rw [← hi1, ← h]
      rfl
    have hm2 : (i2 = false ↔ xs = [] ∧ ys = []) ∧ (i2 = true → (p2.able = false → ∃ y yt, ys = y :: yt ∧ p2 = y.p) ∧ (p2.able = true → ∃ x xt, xs = x :: xt ∧ p2.marked = (x.p.marked || decide (A ≤ now - x.since)))) := by
      cases got2 with
      | none => rw [← hi2]; exact ⟨⟨fun _ => hn2.1 rfl, fun _ => rfl⟩, fun h => (by cases h)⟩
      | some q =>
        simp only [Option.getD_some] at hp2
        subst hp2
        rw [← hi2]
        exact ⟨⟨fun h => (by cases h), fun h => (by cases hn2.2 h)⟩, fun _ => hc2 q rfl⟩
    have HM0 := Lib.hid hm0
    have HM1 := Lib.hid hm1
    have HM2 := Lib.hid hm2
    have HO1 := Lib.hid ho1
    have HO2 := Lib.hid ho2
    have HP1' := Lib.hid hp1
    have HI1 := Lib.hid hi1
    have HP2' := Lib.hid hp2
    have HI2 := Lib.hid hi2
    clear hm0 hm1 hm2 hn2 hc2 ho1 ho2 hp1 hi1 hp2 hi2
    have hok0 : Du.Ok A 0 room v0 v7 xs ys := ⟨HOK.out.a0, HOK.out.a1, by omega, by omega, HOK.out.r0, HOK.out.r1, HOK.out.m0, HOK.out.m1, HOK.out.t0, HOK.out.t1, HOK.out.len, HOK.out.lx, HOK.out.ly, HOK.out.ax, HOK.out.ay⟩
    have HOK0 := Lib.hid hok0
    clear hok0
    go_wp2_with (first | (refine wpList_load_mid rfl 28 _ rfl W.heap.size 0 rfl (dqList A B room (some ⟨ab, ao, none⟩) lc v0 v7 s) _ (HQ2.out.below (by exact (by repeat (first | exact Below.refl _ _ | refine below_drawnN ?_ _ | refine below_drawn ?_ | refine below_new ?_ _)))).range Tryd.underlying28 rfl (by kernel_rfl) ?_))
    have HF : RowKit.Hid (Blk (w2.alloc (.cells (dqList A 0 room (some ⟨ab, ao, none⟩) lc v0 v7 s).toArray 28)) w2.heap.size (dqList A 0 room (some ⟨ab, ao, none⟩) lc v0 v7 s)) := Lib.hid (Blk.new w2 (dqList A 0 room (some ⟨ab, ao, none⟩) lc v0 v7 s).toArray 28)
    refine (take_r (HIN.out.below (by exact below_new (Below.refl _ _) _)) lc s (table_below HTB.out (by exact below_new (Below.refl _ _) _)) now t0 t2 HO1.out p1 i1 HP1'.out HI1.out).mono ?_
    rintro e V1 ⟨g1, e1, f1, e2, f2, da1, dc1, rfl, hb, -, -, -, -⟩
    have hbw : Below w2.heap.size w2 V1 := below_on (below_new (Below.refl _ _) _) hb
    have HB3 := Lib.hid (below_on HB2.out hbw)
    have HQ3 := Lib.hid (HQ2.out.below hbw)
    have HF3 := Lib.hid (HF.out.below hb)
    have HIN3 := Lib.hid (HIN.out.below hbw)
    have HTB3 := Lib.hid (table_below HTB.out hbw)
    clear hb hbw HB2 HQ2 HF HIN HTB hzq
    have HN1 := Lib.hid (blk_new_at (V1.alloc (.cells (dqList A B room (some ⟨g1, 15, none⟩) 2 r1 now s1).toArray 28)) (pktList p1).toArray 30 (g := V1.heap.size + 1) (by simp only [World.size_alloc]))
    go_wp2_with (first | (refine wpList_load_mid rfl 28 _ rfl w2.heap.size 0 rfl (dqList A 0 room (some ⟨ab, ao, none⟩) lc v0 v7 s) _ (HF3.out.below (by exact (by repeat (first | exact Below.refl _ _ | refine below_drawnN ?_ _ | refine below_drawn ?_ | refine below_new ?_ _)))).range Tryd.underlying28 rfl (by kernel_rfl) ?_))
    have hin0 : QIn V1 A 0 room ab ao v0 v7 a1 n1 c1 xs a2 n2 c2 ys := ⟨HIN3.out.h1, HIN3.out.h2, HIN3.out.r1, HIN3.out.r2, HOK0.out⟩
    refine (take_r (hin0.below (by exact below_new (below_new (Below.refl _ _) _) _)) lc s (table_below HTB3.out (by exact below_new (below_new (Below.refl _ _) _) _)) now t0 t2 HO2.out p2 i2 HP2'.out HI2.out).mono ?_
    rintro e V2 ⟨g2, e3, f3, e4, f4, da2, dc2, rfl, hb, -, -, -, -⟩
    have hbw : Below V1.heap.size V1 V2 := below_on (by exact below_new (below_new (Below.refl _ _) _) _) hb
    have HN1' := Lib.hid (HN1.out.below hb)
    go_wp2
    obtain ⟨V3, hV3⟩ : ∃ V3, ((V2.alloc (.cells (dqList A 0 room (some ⟨g2, 15, none⟩) 2 r2 now s2).toArray 28)).alloc (.cells (pktList p2).toArray 30)) = V3 := ⟨_, rfl⟩
    rw [hV3]
    have h23 : Below V2.heap.size V2 V3 := hV3 ▸ (by exact below_new (below_new (Below.refl _ _) _) _)
    have h13 := below_on hbw h23
    have HBE := Lib.hid (below_on HB3.out h13)
    have hq3 := HQ3.out.below h13
    have hi3 := HIN3.out.below h13
    have hk1 := HN1'.out.below h23
    have hk2 : Blk V3 (V2.heap.size + 1) (pktList p2) := hV3 ▸ blk_new_at (V2.alloc _) (pktList p2).toArray 30 (by simp only [World.size_alloc])
    have HKX := Lib.hid hi3.r1
    have HKY := Lib.hid hi3.r2
    have c1' := hi3.h1
    have c2' := hi3.h2
    have q1 := hq3.cell 1 rfl
    have q5 := hq3.cell 5 rfl
    have u6 := hk1.cell 6 rfl
    have u7 := hk1.cell 7 rfl
    have zq := hq3.lt
    have zc := World.block_lt_of_cell? _ _ c1'
    have z1 := hk1.lt
    have z2 := hk2.lt
    have HK2 := Lib.hid hk2
    simp only at zc
    clear hV3 h23 h13 hbw hb hq3 hi3 hk1 hk2 HN1 HN1' HB3 HQ3 HF3 HIN3 HTB3 hin0
    have hW : IntKind.i64.wrap ((n1 : Int) + (n2 : Int)) = (n1 : Int) + (n2 : Int) := by rw [IntKind.wrap_i64]; omega
    by_cases hE : xs = [] ∧ ys = []
    · obtain ⟨rfl, rfl⟩ := hE
      obtain rfl : i1 = false := HM0.out rfl rfl
      obtain rfl : i2 = false := HM2.out.1.2 ⟨rfl, rfl⟩
      obtain rfl : n1 = 0 := hl1.symm
      obtain rfl : n2 = 0 := hl2.symm
      go_quiet (fail)
      go_wp2
      go_ret
      exact ⟨rfl, by repeat (first | exact HBE.out | refine below_drawnN ?_ _ | refine below_drawn ?_ | refine below_new ?_ _)⟩
    obtain rfl : i2 = true := by
      cases i2 with
      | true => rfl
      | false => exact absurd (HM2.out.1.1 rfl) hE
    have hpos : 0 < n1 + n2 := by
      rcases Nat.eq_zero_or_pos (n1 + n2) with h | h
      · exact absurd ⟨List.eq_nil_of_length_eq_zero (by omega), List.eq_nil_of_length_eq_zero (by omega)⟩ hE
      · exact h
    have dn : decide (0 < (n1 : Int) + (n2 : Int)) = true := decide_eq_true (by omega)
    clear hE
    cases ha2 : p2.able with
    | false =>
      obtain ⟨y, yt, rfl, rfl⟩ := (HM2.out.2 rfl).1 ha2
      obtain ⟨yb, yo, rfl, hyr⟩ := rdQ_at0 HKY.out (by rw [← hl2]; simp)
      have y0 : V3.cell? ⟨yb, yo, none⟩ = some (.int .i64 y.p.flow) := hyr 0 _ rfl
      have y1 := hyr 1 _ rfl
      have y2 := hyr 2 _ rfl
      have y3 := hyr 3 _ rfl
      have y4 := hyr 4 _ rfl
      have y5 := hyr 5 _ rfl
      have y6 := hyr 6 _ rfl
      have y7 := hyr 7 _ rfl
      have zy := World.block_lt_of_cell? _ _ y0
      simp only at zy
      have hn2 : 0 < n2 := by rw [← hl2]; simp
      have w0 := HK2.out.cell 0 rfl
      have w1 := HK2.out.cell 1 rfl
      have w2 := HK2.out.cell 2 rfl
      have w3 := HK2.out.cell 3 rfl
      have w4 := HK2.out.cell 4 rfl
      have w5 := HK2.out.cell 5 rfl
      have w6 := HK2.out.cell 6 rfl
      have w7 := HK2.out.cell 7 rfl
      rw [ha2] at w6
      have y6' : V3.cell? ⟨yb, yo + 6, none⟩ = some (.bool false) := by rw [← ha2]; exact y6
      clear hyr y6
      cases i1 with
      | false =>
        go_quiet (fail)
        go_wp2
        go_quiet (fail)
        go_wp2
        go_ret
        exact ⟨rfl, by repeat (first | exact HBE.out | refine below_drawnN ?_ _ | refine below_drawn ?_ | refine below_new ?_ _)⟩
      | true =>
        cases ha1 : p1.able with
        | false =>
          rw [ha1] at u6
          go_quiet (fail)
          go_wp2
          go_quiet (fail)
          go_wp2
          go_ret
          exact ⟨rfl, by repeat (first | exact HBE.out | refine below_drawnN ?_ _ | refine below_drawn ?_ | refine below_new ?_ _)⟩
        | true =>
          rw [ha1] at u6
          obtain ⟨x, xt, rfl, hmk⟩ := HM1.out rfl ha1
          obtain ⟨xb, xo, rfl, hxr⟩ := rdQ_at0 HKX.out (by rw [← hl1]; simp)
          have x8 : V3.cell? ⟨xb, xo + 8, none⟩ = some (.int .i64 x.since) := hxr 8 _ rfl
          have zx := World.block_lt_of_cell? _ _ x8
          simp only at zx
          have d3 : ((n1 : Int) == 0) = false := by rw [← hl1]; simp; omega
          have hlow := (HOK.out.lx 0 (by simp)).low
          have hhigh := (HOK.out.lx 0 (by simp)).high
          simp only [List.getD_cons_zero] at hlow hhigh
          have e2 : IntKind.i64.wrap (now - x.since) = now - x.since := by rw [IntKind.wrap_i64]; omega
          have hn0 : 0 < n1 := by rw [← hl1]; simp
          clear hxr hlow hhigh
          by_cases hA : A ≤ now - x.since
          · have dA : decide (A ≤ now - x.since) = true := decide_eq_true hA
            rw [hmk hA] at u7
            clear hmk
            go_quiet (fail)
            go_wp2
            go_quiet (fail)
            go_wp2
            go_quiet (fail)
            go_wp2
            go_ret
            exact ⟨rfl, by repeat (first | exact HBE.out | refine below_drawnN ?_ _ | refine below_drawn ?_ | refine below_new ?_ _)⟩
          · have dA : decide (A ≤ now - x.since) = false := decide_eq_false hA
            clear hmk
            go_quiet (fail)
            go_wp2
            go_quiet (fail)
            go_wp2
            go_quiet (fail)
            go_wp2
            go_ret
            exact ⟨rfl, by repeat (first | exact HBE.out | refine below_drawnN ?_ _ | refine below_drawn ?_ | refine below_new ?_ _)⟩
    | true =>
      obtain ⟨x, xt, rfl, hmk2⟩ := (HM2.out.2 rfl).2 ha2
      obtain ⟨xb, xo, rfl, hxr⟩ := rdQ_at0 HKX.out (by rw [← hl1]; simp)
      have x8 : V3.cell? ⟨xb, xo + 8, none⟩ = some (.int .i64 x.since) := hxr 8 _ rfl
      have x0 : V3.cell? ⟨xb, xo, none⟩ = some (.int .i64 x.p.flow) := hxr 0 _ rfl
      have x1 := hxr 1 _ rfl
      have x2 := hxr 2 _ rfl
      have x3 := hxr 3 _ rfl
      have x4 := hxr 4 _ rfl
      have x5 := hxr 5 _ rfl
      have x6 := hxr 6 _ rfl
      have x7 := hxr 7 _ rfl
      have zx := World.block_lt_of_cell? _ _ x8
      simp only at zx
      have d3 : ((n1 : Int) == 0) = false := by rw [← hl1]; simp; omega
      have hlow := (HOK.out.lx 0 (by simp)).low
      have hhigh := (HOK.out.lx 0 (by simp)).high
      simp only [List.getD_cons_zero] at hlow hhigh
      have e2 : IntKind.i64.wrap (now - x.since) = now - x.since := by rw [IntKind.wrap_i64]; omega
      have hn0 : 0 < n1 := by rw [← hl1]; simp
      clear hxr hlow hhigh
      have w6 := HK2.out.cell 6 rfl
      have w7 := HK2.out.cell 7 rfl
      rw [ha2] at w6
      rw [hmk2] at w7
      clear hmk2
      by_cases hA : A ≤ now - x.since
      · have dA : decide (A ≤ now - x.since) = true := decide_eq_true hA
        rw [dA] at w7
        clear hA
        cases hxm : x.p.marked with
        | false =>
          rw [hxm] at w7 x7
          cases i1 with
          | false =>
            go_quiet (fail)
            obtain ⟨V4, hVn⟩ : ∃ V4, V3.drewN nq = V4 := ⟨_, rfl⟩
            rw [hVn]
            have ce : ∀ a, V3.cell? a = V4.cell? a := fun a => hVn ▸ rfl
            have cs : V3.heap.size = V4.heap.size := hVn ▸ rfl
            rw [ce] at q1 q5 c1' c2' u6 u7 w6 w7 x0 x1 x2 x3 x4 x5 x6 x7 x8
            rw [cs] at zq zc z1 z2 zx
            have HBE' := Lib.hid (hVn ▸ below_drawnN HBE.out nq)
            clear hVn ce cs HBE
            have HBE := HBE'
            clear HBE'
            go_wp2
            go_ret
            exact ⟨rfl, by repeat (first | exact HBE.out | refine below_drawnN ?_ _ | refine below_drawn ?_ | refine below_new ?_ _)⟩
          | true =>
            cases ha1 : p1.able with
            | false =>
              rw [ha1] at u6
              go_quiet (fail)
              obtain ⟨V4, hVn⟩ : ∃ V4, V3.drewN nq = V4 := ⟨_, rfl⟩
              rw [hVn]
              have ce : ∀ a, V3.cell? a = V4.cell? a := fun a => hVn ▸ rfl
              have cs : V3.heap.size = V4.heap.size := hVn ▸ rfl
              rw [ce] at q1 q5 c1' c2' u6 u7 w6 w7 x0 x1 x2 x3 x4 x5 x6 x7 x8
              rw [cs] at zq zc z1 z2 zx
              have HBE' := Lib.hid (hVn ▸ below_drawnN HBE.out nq)
              clear hVn ce cs HBE
              have HBE := HBE'
              clear HBE'
              go_wp2
              go_ret
              exact ⟨rfl, by repeat (first | exact HBE.out | refine below_drawnN ?_ _ | refine below_drawn ?_ | refine below_new ?_ _)⟩
            | true =>
              rw [ha1] at u6
              have hmk : A ≤ now - x.since → p1.marked = true := by
                obtain ⟨x', xt', e, h⟩ := HM1.out rfl ha1
                injection e with e _
                subst e
                exact h
              first
                | rw [hmk (of_decide_eq_true dA)] at u7
                | skip
              clear hmk
              go_quiet (fail)
              obtain ⟨V4, hVn⟩ : ∃ V4, V3.drewN nq = V4 := ⟨_, rfl⟩
              rw [hVn]
              have ce : ∀ a, V3.cell? a = V4.cell? a := fun a => hVn ▸ rfl
              have cs : V3.heap.size = V4.heap.size := hVn ▸ rfl
              rw [ce] at q1 q5 c1' c2' u6 u7 w6 w7 x0 x1 x2 x3 x4 x5 x6 x7 x8
              rw [cs] at zq zc z1 z2 zx
              have HBE' := Lib.hid (hVn ▸ below_drawnN HBE.out nq)
              clear hVn ce cs HBE
              have HBE := HBE'
              clear HBE'
              go_wp2
              go_quiet (fail)
              obtain ⟨V5, hVn⟩ : ∃ V5, V4.drewN nq = V5 := ⟨_, rfl⟩
              rw [hVn]
              have ce : ∀ a, V4.cell? a = V5.cell? a := fun a => hVn ▸ rfl
              have cs : V4.heap.size = V5.heap.size := hVn ▸ rfl
              rw [ce] at q1 q5 c1' c2' u6 u7 w6 w7 x0 x1 x2 x3 x4 x5 x6 x7 x8
              rw [cs] at zq zc z1 z2 zx
              have HBE' := Lib.hid (hVn ▸ below_drawnN HBE.out nq)
              clear hVn ce cs HBE
              have HBE := HBE'
              clear HBE'
              go_wp2
              go_ret
              exact ⟨rfl, by repeat (first | exact HBE.out | refine below_drawnN ?_ _ | refine below_drawn ?_ | refine below_new ?_ _)⟩
        | true =>
          rw [hxm] at w7 x7
          cases i1 with
          | false =>
            go_quiet (fail)
            obtain ⟨V4, hVn⟩ : ∃ V4, V3.drewN nq = V4 := ⟨_, rfl⟩
            rw [hVn]
            have ce : ∀ a, V3.cell? a = V4.cell? a := fun a => hVn ▸ rfl
            have cs : V3.heap.size = V4.heap.size := hVn ▸ rfl
            rw [ce] at q1 q5 c1' c2' u6 u7 w6 w7 x0 x1 x2 x3 x4 x5 x6 x7 x8
            rw [cs] at zq zc z1 z2 zx
            have HBE' := Lib.hid (hVn ▸ below_drawnN HBE.out nq)
            clear hVn ce cs HBE
            have HBE := HBE'
            clear HBE'
            go_wp2
            go_ret
            exact ⟨rfl, by repeat (first | exact HBE.out | refine below_drawnN ?_ _ | refine below_drawn ?_ | refine below_new ?_ _)⟩
          | true =>
            cases ha1 : p1.able with
            | false =>
              rw [ha1] at u6
              go_quiet (fail)
              obtain ⟨V4, hVn⟩ : ∃ V4, V3.drewN nq = V4 := ⟨_, rfl⟩
              rw [hVn]
              have ce : ∀ a, V3.cell? a = V4.cell? a := fun a => hVn ▸ rfl
              have cs : V3.heap.size = V4.heap.size := hVn ▸ rfl
              rw [ce] at q1 q5 c1' c2' u6 u7 w6 w7 x0 x1 x2 x3 x4 x5 x6 x7 x8
              rw [cs] at zq zc z1 z2 zx
              have HBE' := Lib.hid (hVn ▸ below_drawnN HBE.out nq)
              clear hVn ce cs HBE
              have HBE := HBE'
              clear HBE'
              go_wp2
              go_ret
              exact ⟨rfl, by repeat (first | exact HBE.out | refine below_drawnN ?_ _ | refine below_drawn ?_ | refine below_new ?_ _)⟩
            | true =>
              rw [ha1] at u6
              have hmk : A ≤ now - x.since → p1.marked = true := by
                obtain ⟨x', xt', e, h⟩ := HM1.out rfl ha1
                injection e with e _
                subst e
                exact h
              first
                | rw [hmk (of_decide_eq_true dA)] at u7
                | skip
              clear hmk
              go_quiet (fail)
              obtain ⟨V4, hVn⟩ : ∃ V4, V3.drewN nq = V4 := ⟨_, rfl⟩
              rw [hVn]
              have ce : ∀ a, V3.cell? a = V4.cell? a := fun a => hVn ▸ rfl
              have cs : V3.heap.size = V4.heap.size := hVn ▸ rfl
              rw [ce] at q1 q5 c1' c2' u6 u7 w6 w7 x0 x1 x2 x3 x4 x5 x6 x7 x8
              rw [cs] at zq zc z1 z2 zx
              have HBE' := Lib.hid (hVn ▸ below_drawnN HBE.out nq)
              clear hVn ce cs HBE
              have HBE := HBE'
              clear HBE'
              go_wp2
              go_quiet (fail)
              obtain ⟨V5, hVn⟩ : ∃ V5, V4.drewN nq = V5 := ⟨_, rfl⟩
              rw [hVn]
              have ce : ∀ a, V4.cell? a = V5.cell? a := fun a => hVn ▸ rfl
              have cs : V4.heap.size = V5.heap.size := hVn ▸ rfl
              rw [ce] at q1 q5 c1' c2' u6 u7 w6 w7 x0 x1 x2 x3 x4 x5 x6 x7 x8
              rw [cs] at zq zc z1 z2 zx
              have HBE' := Lib.hid (hVn ▸ below_drawnN HBE.out nq)
              clear hVn ce cs HBE
              have HBE := HBE'
              clear HBE'
              go_wp2
              go_ret
              exact ⟨rfl, by repeat (first | exact HBE.out | refine below_drawnN ?_ _ | refine below_drawn ?_ | refine below_new ?_ _)⟩
      · have dA : decide (A ≤ now - x.since) = false := decide_eq_false hA
        rw [dA] at w7
        clear hA
        cases hxm : x.p.marked with
        | false =>
          rw [hxm] at w7 x7
          cases i1 with
          | false =>
            go_quiet (fail)
            obtain ⟨V4, hVn⟩ : ∃ V4, V3.drewN nq = V4 := ⟨_, rfl⟩
            rw [hVn]
            have ce : ∀ a, V3.cell? a = V4.cell? a := fun a => hVn ▸ rfl
            have cs : V3.heap.size = V4.heap.size := hVn ▸ rfl
            rw [ce] at q1 q5 c1' c2' u6 u7 w6 w7 x0 x1 x2 x3 x4 x5 x6 x7 x8
            rw [cs] at zq zc z1 z2 zx
            have HBE' := Lib.hid (hVn ▸ below_drawnN HBE.out nq)
            clear hVn ce cs HBE
            have HBE := HBE'
            clear HBE'
            go_wp2
            go_ret
            exact ⟨rfl, by repeat (first | exact HBE.out | refine below_drawnN ?_ _ | refine below_drawn ?_ | refine below_new ?_ _)⟩
          | true =>
            cases ha1 : p1.able with
            | false =>
              rw [ha1] at u6
              go_quiet (fail)
              obtain ⟨V4, hVn⟩ : ∃ V4, V3.drewN nq = V4 := ⟨_, rfl⟩
              rw [hVn]
              have ce : ∀ a, V3.cell? a = V4.cell? a := fun a => hVn ▸ rfl
              have cs : V3.heap.size = V4.heap.size := hVn ▸ rfl
              rw [ce] at q1 q5 c1' c2' u6 u7 w6 w7 x0 x1 x2 x3 x4 x5 x6 x7 x8
              rw [cs] at zq zc z1 z2 zx
              have HBE' := Lib.hid (hVn ▸ below_drawnN HBE.out nq)
              clear hVn ce cs HBE
              have HBE := HBE'
              clear HBE'
              go_wp2
              go_ret
              exact ⟨rfl, by repeat (first | exact HBE.out | refine below_drawnN ?_ _ | refine below_drawn ?_ | refine below_new ?_ _)⟩
            | true =>
              rw [ha1] at u6
              have hmk : A ≤ now - x.since → p1.marked = true := by
                obtain ⟨x', xt', e, h⟩ := HM1.out rfl ha1
                injection e with e _
                subst e
                exact h
              first
                | rw [hmk (of_decide_eq_true dA)] at u7
                | skip
              clear hmk
              go_quiet (fail)
              obtain ⟨V4, hVn⟩ : ∃ V4, V3.drewN nq = V4 := ⟨_, rfl⟩
              rw [hVn]
              have ce : ∀ a, V3.cell? a = V4.cell? a := fun a => hVn ▸ rfl
              have cs : V3.heap.size = V4.heap.size := hVn ▸ rfl
              rw [ce] at q1 q5 c1' c2' u6 u7 w6 w7 x0 x1 x2 x3 x4 x5 x6 x7 x8
              rw [cs] at zq zc z1 z2 zx
              have HBE' := Lib.hid (hVn ▸ below_drawnN HBE.out nq)
              clear hVn ce cs HBE
              have HBE := HBE'
              clear HBE'
              go_wp2
              go_quiet (fail)
              obtain ⟨V5, hVn⟩ : ∃ V5, V4.drewN nq = V5 := ⟨_, rfl⟩
              rw [hVn]
              have ce : ∀ a, V4.cell? a = V5.cell? a := fun a => hVn ▸ rfl
              have cs : V4.heap.size = V5.heap.size := hVn ▸ rfl
              rw [ce] at q1 q5 c1' c2' u6 u7 w6 w7 x0 x1 x2 x3 x4 x5 x6 x7 x8
              rw [cs] at zq zc z1 z2 zx
              have HBE' := Lib.hid (hVn ▸ below_drawnN HBE.out nq)
              clear hVn ce cs HBE
              have HBE := HBE'
              clear HBE'
              go_wp2
              go_ret
              exact ⟨rfl, by repeat (first | exact HBE.out | refine below_drawnN ?_ _ | refine below_drawn ?_ | refine below_new ?_ _)⟩
        | true =>
          rw [hxm] at w7 x7
          cases i1 with
          | false =>
            go_quiet (fail)
            obtain ⟨V4, hVn⟩ : ∃ V4, V3.drewN nq = V4 := ⟨_, rfl⟩
            rw [hVn]
            have ce : ∀ a, V3.cell? a = V4.cell? a := fun a => hVn ▸ rfl
            have cs : V3.heap.size = V4.heap.size := hVn ▸ rfl
            rw [ce] at q1 q5 c1' c2' u6 u7 w6 w7 x0 x1 x2 x3 x4 x5 x6 x7 x8
            rw [cs] at zq zc z1 z2 zx
            have HBE' := Lib.hid (hVn ▸ below_drawnN HBE.out nq)
            clear hVn ce cs HBE
            have HBE := HBE'
            clear HBE'
            go_wp2
            go_ret
            exact ⟨rfl, by repeat (first | exact HBE.out | refine below_drawnN ?_ _ | refine below_drawn ?_ | refine below_new ?_ _)⟩
          | true =>
            cases ha1 : p1.able with
            | false =>
              rw [ha1] at u6
              go_quiet (fail)
              obtain ⟨V4, hVn⟩ : ∃ V4, V3.drewN nq = V4 := ⟨_, rfl⟩
              rw [hVn]
              have ce : ∀ a, V3.cell? a = V4.cell? a := fun a => hVn ▸ rfl
              have cs : V3.heap.size = V4.heap.size := hVn ▸ rfl
              rw [ce] at q1 q5 c1' c2' u6 u7 w6 w7 x0 x1 x2 x3 x4 x5 x6 x7 x8
              rw [cs] at zq zc z1 z2 zx
              have HBE' := Lib.hid (hVn ▸ below_drawnN HBE.out nq)
              clear hVn ce cs HBE
              have HBE := HBE'
              clear HBE'
              go_wp2
              go_ret
              exact ⟨rfl, by repeat (first | exact HBE.out | refine below_drawnN ?_ _ | refine below_drawn ?_ | refine below_new ?_ _)⟩
            | true =>
              rw [ha1] at u6
              have hmk : A ≤ now - x.since → p1.marked = true := by
                obtain ⟨x', xt', e, h⟩ := HM1.out rfl ha1
                injection e with e _
                subst e
                exact h
              first
                | rw [hmk (of_decide_eq_true dA)] at u7
                | skip
              clear hmk
              go_quiet (fail)
              obtain ⟨V4, hVn⟩ : ∃ V4, V3.drewN nq = V4 := ⟨_, rfl⟩
              rw [hVn]
              have ce : ∀ a, V3.cell? a = V4.cell? a := fun a => hVn ▸ rfl
              have cs : V3.heap.size = V4.heap.size := hVn ▸ rfl
              rw [ce] at q1 q5 c1' c2' u6 u7 w6 w7 x0 x1 x2 x3 x4 x5 x6 x7 x8
              rw [cs] at zq zc z1 z2 zx
              have HBE' := Lib.hid (hVn ▸ below_drawnN HBE.out nq)
              clear hVn ce cs HBE
              have HBE := HBE'
              clear HBE'
              go_wp2
              go_quiet (fail)
              obtain ⟨V5, hVn⟩ : ∃ V5, V4.drewN nq = V5 := ⟨_, rfl⟩
              rw [hVn]
              have ce : ∀ a, V4.cell? a = V5.cell? a := fun a => hVn ▸ rfl
              have cs : V4.heap.size = V5.heap.size := hVn ▸ rfl
              rw [ce] at q1 q5 c1' c2' u6 u7 w6 w7 x0 x1 x2 x3 x4 x5 x6 x7 x8
              rw [cs] at zq zc z1 z2 zx
              have HBE' := Lib.hid (hVn ▸ below_drawnN HBE.out nq)
              clear hVn ce cs HBE
              have HBE := HBE'
              clear HBE'
              go_wp2
              go_ret
              exact ⟨rfl, by repeat (first | exact HBE.out | refine below_drawnN ?_ _ | refine below_drawn ?_ | refine below_new ?_ _)⟩
end Go.Proofs.YtdecclklenaoaaaDoor
