/- usable of the laws of package dual. -/
import Derived.Test.YtdecclklenaoaaaDoorDuRefV
namespace Go.Proofs.YtdecclklenaoaaaDoor
open Go.RowKit

/-- A valid queue of package dual, in memory. -/
structure QIn (w : World) (A B room : Int) (ab ao : Nat) (v0 v7 : Int) (a1 : Option Addr) (n1 c1 : Nat) (xs : List Ea.Item) (a2 : Option Addr) (n2 c2 : Nat) (ys : List Ea.Item) : Prop where
  h1 : w.cell? ⟨ab, ao, none⟩ = some (.slice a1 n1 c1)
  h2 : w.cell? ⟨ab, ao + 1, none⟩ = some (.slice a2 n2 c2)
  r1 : RdQ w a1 n1 xs
  r2 : RdQ w a2 n2 ys
  ok : Du.Ok A B room v0 v7 xs ys
theorem QIn.below {w V : World} {A B room : Int} {ab ao : Nat} {v0 v7 : Int} {a1 : Option Addr} {n1 c1 : Nat} {xs : List Ea.Item} {a2 : Option Addr} {n2 c2 : Nat} {ys : List Ea.Item} (h : QIn w A B room ab ao v0 v7 a1 n1 c1 xs a2 n2 c2 ys) (hb : Below w.heap.size w V) : QIn V A B room ab ao v0 v7 a1 n1 c1 xs a2 n2 c2 ys :=
  ⟨below_cell_of hb h.h1, below_cell_of hb h.h2, h.r1.below hb, h.r2.below hb, h.ok⟩
def VOk2 (w : World) (kind A B C room : Int) (la : Option Addr) (ln : Nat) (v0 v1 v2 v3 v4 v5 v6 v7 : Int) : Prop :=
  kind = 6 ∧ C = 0 ∧ v1 = 0 ∧ v2 = 0 ∧ v3 = 0 ∧ v4 = 0 ∧ v5 = 0 ∧ v6 = 0 ∧ ln = 2 ∧ ∃ ab ao a1 n1 c1 xs a2 n2 c2 ys, la = some ⟨ab, ao, none⟩ ∧ QIn w A B room ab ao v0 v7 a1 n1 c1 xs a2 n2 c2 ys
/-- Two lists. -/
theorem RdLs.two {w : World} {la : Option Addr} (h : RdLs w la 2) : ∃ ab ao a1 n1 c1 xs a2 n2 c2 ys, la = some (⟨ab, ao, none⟩ : Addr) ∧ w.cell? ⟨ab, ao, none⟩ = some (.slice a1 n1 c1) ∧ w.cell? ⟨ab, ao + 1, none⟩ = some (.slice a2 n2 c2) ∧ RdQ w a1 n1 xs ∧ RdQ w a2 n2 ys := by
  obtain ⟨⟨b, o, sp⟩, a1, n1, c1, xs, rfl, h1, r1, _⟩ := h 0 (by omega)
  obtain ⟨ad2, a2, n2, c2, ys, e, h2, r2, _⟩ := h 1 (by omega)
  rw [ad_add_zero] at h1
  injection e with e
  subst e
  have hs : sp = none := by
    cases sp with
    | none => rfl
    | some q =>
      exfalso
      simp only [World.cell?] at h1
      split at h1 <;> simp at h1
  subst hs
  exact ⟨b, o, a1, n1, c1, xs, a2, n2, c2, ys, rfl, h1, by simpa [Addr.add] using h2, r1, r2⟩
set_option maxRecDepth 100000 in
set_option maxHeartbeats 8000000 in
theorem rvalid_no (kind A B C room : Int) (la : Option Addr) (ln lc : Nat) (v0 v1 v2 v3 v4 v5 v6 v7 : Int) (seed : Int) (w : World) (hno : ¬ (kind = 6 ∧ 0 ≤ A ∧ A ≤ 1000000 ∧ 0 ≤ B ∧ B ≤ 1000 ∧ C = 0 ∧ 1 ≤ room ∧ room ≤ 500 ∧ (ln : Int) = 2)) :
    Calls Tryd.prog 19 #[.agg #[.int .i64 kind, .int .i64 A, .int .i64 B, .int .i64 C, .int .i64 room, .slice la ln lc, .int .i64 v0, .int .i64 v1, .int .i64 v2, .int .i64 v3, .int .i64 v4, .int .i64 v5, .int .i64 v6, .int .i64 v7, .int .u64 seed]] w fun e V => e = .returned (.bool false) ∧ Below w.heap.size w V := by
  go_enter Tryd.func19, Tryd.ntmps19
  go_wp2
  all_goals first
    | (go_ret; exact ⟨rfl, below_new (below_new (Below.refl _ _) _) _⟩)
    | (exfalso; simp only [bne_eq_false_iff_eq] at *; omega)
theorem rvalid_any (kind A B C room : Int) (la : Option Addr) (ln lc : Nat) (v0 v1 v2 v3 v4 v5 v6 v7 : Int) (seed : Int) (w : World) (hL : RdLs w la ln) (hS : ∀ i ad a n c, i < ln → la = some ad → w.cell? (ad.add i) = some (.slice a n c) → n ≤ 600) :
    Calls Tryd.prog 19 #[.agg #[.int .i64 kind, .int .i64 A, .int .i64 B, .int .i64 C, .int .i64 room, .slice la ln lc, .int .i64 v0, .int .i64 v1, .int .i64 v2, .int .i64 v3, .int .i64 v4, .int .i64 v5, .int .i64 v6, .int .i64 v7, .int .u64 seed]] w fun e w' => SaysIff w (VOk2 w kind A B C room la ln v0 v1 v2 v3 v4 v5 v6 v7) e w' := by
  by_cases hsh : kind = 6 ∧ 0 ≤ A ∧ A ≤ 1000000 ∧ 0 ≤ B ∧ B ≤ 1000 ∧ C = 0 ∧ 1 ≤ room ∧ room ≤ 500 ∧ (ln : Int) = 2
  · obtain ⟨rfl, p0, p1, p2, p3, rfl, p4, p5, hln⟩ := hsh
    obtain rfl : ln = 2 := by omega
    obtain ⟨ab, ao, a1, n1, c1, xs, a2, n2, c2, ys, rfl, h1, h2, r1, r2⟩ := hL.two
    have s1 := hS 0 _ a1 n1 c1 (by omega) rfl (by rw [ad_add_zero]; exact h1)
    have s2 := hS 1 _ a2 n2 c2 (by omega) rfl (by simpa [Addr.add] using h2)
    refine (rvalid_two A B room ab ao lc v0 v1 v2 v3 v4 v5 v6 v7 seed w a1 n1 c1 xs a2 n2 c2 ys h1 h2 r1 r2 (by omega) (by omega) p0 p1 p2 p3 p4 p5).mono ?_
    rintro e V ⟨⟨b, rfl, hb⟩, hV⟩
    refine ⟨⟨b, rfl, fun h => ?_, fun h => ?_⟩, hV⟩
    · obtain ⟨z1, z2, z3, z4, z5, z6, q0, q7, ql, l1, l2⟩ := hb.1 h
      have e1 := (listD_iff q7.2).1 l1
      have e2 := (listD_iff q7.2).1 l2
      exact ⟨rfl, rfl, z1, z2, z3, z4, z5, z6, rfl, ab, ao, a1, n1, c1, xs, a2, n2, c2, ys, rfl, h1, h2, r1, r2, p0, p1, p2, p3, p4, p5, q0.1, q0.2, q7.1, q7.2, by rw [r1.1, r2.1]; exact ql, e1.1, e2.1, e1.2, e2.2⟩
    · obtain ⟨_, _, z1, z2, z3, z4, z5, z6, _, ab', ao', a1', n1', c1', xs', a2', n2', c2', ys', e, hq⟩ := h
      injection e with e
      injection e with e1 e2
      subst e1 e2
      have g1 := h1.symm.trans hq.h1
      have g2 := h2.symm.trans hq.h2
      injection g1 with g1
      injection g1 with g11 g12 g13
      injection g2 with g2
      injection g2 with g21 g22 g23
      subst g11 g12 g13 g21 g22 g23
      obtain rfl := rdQ_unique r1 hq.r1
      obtain rfl := rdQ_unique r2 hq.r2
      have k := hq.ok
      exact hb.2 ⟨z1, z2, z3, z4, z5, z6, ⟨k.m0, k.m1⟩, ⟨k.t0, k.t1⟩, by rw [← r1.1, ← r2.1]; exact k.len, (listD_iff k.t1).2 ⟨k.lx, k.ax⟩, (listD_iff k.t1).2 ⟨k.ly, k.ay⟩⟩
  · refine (rvalid_no kind A B C room la ln lc v0 v1 v2 v3 v4 v5 v6 v7 seed w hsh).mono ?_
    rintro e V ⟨rfl, hV⟩
    refine ⟨⟨false, rfl, (fun h => by cases h), fun h => ?_⟩, hV⟩
    obtain ⟨rfl, rfl, _, _, _, _, _, _, rfl, ab, ao, a1, n1, c1, xs, a2, n2, c2, ys, rfl, hq⟩ := h
    have k := hq.ok
    exact absurd ⟨rfl, k.a0, k.a1, k.b0, k.b1, rfl, k.r0, k.r1, rfl⟩ hsh
theorem VOk2.back {w V : World} {kind A B C room : Int} {la : Option Addr} {ln : Nat} {v0 v1 v2 v3 v4 v5 v6 v7 : Int} (hL : RdLs w la ln) (hb : Below w.heap.size w V) (h : VOk2 V kind A B C room la ln v0 v1 v2 v3 v4 v5 v6 v7) : VOk2 w kind A B C room la ln v0 v1 v2 v3 v4 v5 v6 v7 := by
  obtain ⟨e1, e2, z1, z2, z3, z4, z5, z6, rfl, ab', ao', a1', n1', c1', xs', a2', n2', c2', ys', e, hq⟩ := h
  obtain ⟨ab, ao, a1, n1, c1, xs, a2, n2, c2, ys, rfl, h1, h2, r1, r2⟩ := hL.two
  injection e with e
  injection e with f1 f2
  subst f1 f2
  have g1 := (below_cell_of hb h1).symm.trans hq.h1
  have g2 := (below_cell_of hb h2).symm.trans hq.h2
  injection g1 with g1
  injection g1 with g11 g12 g13
  injection g2 with g2
  injection g2 with g21 g22 g23
  subst g11 g12 g13 g21 g22 g23
  obtain rfl := rdQ_unique (r1.below hb) hq.r1
  obtain rfl := rdQ_unique (r2.below hb) hq.r2
  exact ⟨e1, e2, z1, z2, z3, z4, z5, z6, rfl, ab, ao, _, _, _, _, _, _, _, _, rfl, h1, h2, r1, r2, hq.ok⟩
set_option maxRecDepth 100000 in
set_option maxHeartbeats 4000000 in
theorem usable_any (kind A B C room : Int) (la : Option Addr) (ln lc : Nat) (v0 v1 v2 v3 v4 v5 v6 v7 : Int) (seed : Int) (now : Int) (w : World) (hL : RdLs w la ln) (hln : (ln : Int) ≤ 9223372036854775807) :
    Calls Tryd.prog 23 #[.agg #[.int .i64 kind, .int .i64 A, .int .i64 B, .int .i64 C, .int .i64 room, .slice la ln lc, .int .i64 v0, .int .i64 v1, .int .i64 v2, .int .i64 v3, .int .i64 v4, .int .i64 v5, .int .i64 v6, .int .i64 v7, .int .u64 seed], .int .i64 now] w fun e w' => Says w (VOk2 w kind A B C room la ln v0 v1 v2 v3 v4 v5 v6 v7 ∧ v7 ≤ now ∧ 0 ≤ now ∧ now ≤ 10000000) e w' := by
  have HL := Lib.hid hL
  clear hL
  go_enter Tryd.func23, Tryd.ntmps23
  go_wp2_with fail
  refine (few_any kind A B C room la ln lc v0 v1 v2 v3 v4 v5 v6 v7 seed _ (HL.out.below (below_new (Below.refl _ _) _)) hln).mono ?_
  rintro e w1 ⟨⟨b1, rfl, hs1⟩, hb1⟩
  have HB1 := Lib.hid (below_on (below_new (Below.refl w.heap.size w) _) hb1)
  have HR1 := Lib.hid ((Blk.new w #[.int .i64 kind, .int .i64 A, .int .i64 B, .int .i64 C, .int .i64 room, .slice la ln lc, .int .i64 v0, .int .i64 v1, .int .i64 v2, .int .i64 v3, .int .i64 v4, .int .i64 v5, .int .i64 v6, .int .i64 v7, .int .u64 seed] 28).below hb1)
  have HS1 := Lib.hid hs1
  have HBA := Lib.hid hb1
  clear hb1 hs1
  cases b1 with
  | false =>
    go_wp2
    go_ret
    exact says_no HB1.out
  | true =>
    have hS : ∀ i ad a n c, i < ln → la = some ad → w1.cell? (ad.add i) = some (.slice a n c) → n ≤ 600 := fun i ad a n c hi e h => by
      obtain ⟨ad', a', n', c', xs', e', hc', _, _⟩ := HL.out i hi
      rw [e] at e'
      injection e' with e'
      subst e'
      have h3 := below_cell_of (below_new (Below.refl w.heap.size w) (.cells #[.int .i64 kind, .int .i64 A, .int .i64 B, .int .i64 C, .int .i64 room, .slice la ln lc, .int .i64 v0, .int .i64 v1, .int .i64 v2, .int .i64 v3, .int .i64 v4, .int .i64 v5, .int .i64 v6, .int .i64 v7, .int .u64 seed] 28)) hc'
      have h4 := (below_cell_of HBA.out h3).symm.trans h
      injection h4 with h4
      injection h4 with _ h5 _
      subst h5
      exact (HS1.out.1 rfl).2 i ad _ _ _ hi e h3
    have HSS := Lib.hid hS
    clear hS
    have k0 := HR1.out.cell 0 rfl
    have k1 := HR1.out.cell 1 rfl
    have k2 := HR1.out.cell 2 rfl
    have k3 := HR1.out.cell 3 rfl
    have k4 := HR1.out.cell 4 rfl
    have k5 := HR1.out.cell 5 rfl
    have k6 := HR1.out.cell 6 rfl
    have k7 := HR1.out.cell 7 rfl
    have k8 := HR1.out.cell 8 rfl
    have k9 := HR1.out.cell 9 rfl
    have k10 := HR1.out.cell 10 rfl
    have k11 := HR1.out.cell 11 rfl
    have k12 := HR1.out.cell 12 rfl
    have k13 := HR1.out.cell 13 rfl
    have k14 := HR1.out.cell 14 rfl
    go_wp2_with fail
    refine (rvalid_any kind A B C room la ln lc v0 v1 v2 v3 v4 v5 v6 v7 seed _ (HL.out.below HB1.out) HSS.out).mono ?_
    rintro e w2 ⟨⟨b2, rfl, hb2⟩, hbel⟩
    clear k0 k1 k2 k3 k4 k5 k6 k7 k8 k9 k10 k11 k12 k13 k14
    have HB2 := Lib.hid hb2
    have HB3 := Lib.hid (below_on HB1.out hbel)
    have HR2 := Lib.hid (HR1.out.below hbel)
    clear hb2 hbel
    cases b2 with
    | false =>
      go_wp2
      go_ret
      exact says_no HB3.out
    | true =>
      obtain ⟨bt, hbt⟩ : ∃ b, decide (0 ≤ now ∧ now ≤ 10000000) = b := ⟨_, rfl⟩
      have HBT := Lib.hid hbt
      clear hbt
      go_wp2_with fail
      refine (time_any now _).mono ?_
      rw [HBT.out]
      rintro e w3 ⟨rfl, rfl⟩
      cases bt with
      | false =>
        go_wp2
        go_ret
        exact says_no HB3.out
      | true =>
        have k13 := HR2.out.cell 13 rfl
        obtain ⟨bv, hbv⟩ : ∃ b, decide (v7 ≤ now) = b := ⟨_, rfl⟩
        have HBV := Lib.hid hbv
        have hbv' := hbv
        go_wp2
        go_ret
        exact ⟨⟨bv, by simp_all, fun h => ⟨VOk2.back HL.out HB1.out (HB2.out.1 (by first | rfl | trivial)), of_decide_eq_true (HBV.out.trans h), (of_decide_eq_true HBT.out).1, (of_decide_eq_true HBT.out).2⟩⟩, HB3.out⟩
end Go.Proofs.YtdecclklenaoaaaDoor
