/- Arguments of the statements on packages early and dual opened: packets, queues. -/
import Derived.Test.YtfeemiamjmmolaaDoorQuLs
import Derived.Deep.Slices
import Derived.Deep.Strs
import Derived.ProofKit
import Derived.OpenShut
import Derived.Lib.SmallJoins
namespace Go.Proofs.YtfeemiamjmmolaaDoor
open Go.RowKit Go.ChangeShapes

section
variable {H : Type} {enc : TypeId × Value → H} {w : World} {base : Nat} {spare : Nat → Bool} {held : Bool}
theorem maxLen_int {n : Nat} (h : n ≤ maxLen) : (n : Int) ≤ 9223372036854775807 := by
  simp [maxLen] at h
  omega
theorem cells8 {cs : List Value} (h : cs.length = 8) : ∃ a b c d e f g i, cs = [a, b, c, d, e, f, g, i] := by
  match cs, h with
  | [a, b, c, d, e, f, g, i], _ => exact ⟨a, b, c, d, e, f, g, i, rfl⟩
theorem cells9 {cs : List Value} (h : cs.length = 9) : ∃ a b c d e f g i j, cs = [a, b, c, d, e, f, g, i, j] := by
  match cs, h with
  | [a, b, c, d, e, f, g, i, j], _ => exact ⟨a, b, c, d, e, f, g, i, j, rfl⟩
theorem cells4 {cs : List Value} (h : cs.length = 4) : ∃ a b c d, cs = [a, b, c, d] := by
  match cs, h with
  | [a, b, c, d], _ => exact ⟨a, b, c, d, rfl⟩
theorem cells15 {cs : List Value} (h : cs.length = 15) : ∃ a b c d e f g i j k l m n o p, cs = [a, b, c, d, e, f, g, i, j, k, l, m, n, o, p] := by
  match cs, h with
  | [a, b, c, d, e, f, g, i, j, k, l, m, n, o, p], _ => exact ⟨a, b, c, d, e, f, g, i, j, k, l, m, n, o, p, rfl⟩
theorem int_cell {n : Nat} {v : Value} {x : DataW H × List MemPlace} (h : DataW.trod enc Tryd.prog w base spare held n 3 [v] = some x) : ∃ z, v = .int .i64 z := by
  obtain ⟨z, hz, _⟩ := DataW.trod_int Tryd.underlying3 h
  simp only [List.cons.injEq, and_true] at hz
  exact ⟨z, hz⟩
theorem bool_cell {n : Nat} {v : Value} {x : DataW H × List MemPlace} (h : DataW.trod enc Tryd.prog w base spare held n 4 [v] = some x) : ∃ z, v = .bool z := by
  obtain ⟨z, hz, _⟩ := DataW.trod_bool Tryd.underlying4 h
  simp only [List.cons.injEq, and_true] at hz
  exact ⟨z, hz⟩
theorem field_at {cs : List Value} {P : Program} {f : TypeId} {o s : Nat} {m : Nat} {xs : List (DataW H × List MemPlace)} {i : Nat} (hi : i < xs.length) (h : DataW.trod enc P w base spare held m f ((cs.drop o).take (P.cellsOf f)) = xs[i]?) (hs : P.cellsOf f = s) : ∃ x, DataW.trod enc P w base spare held m f ((cs.drop o).take s) = some x := by
  rw [List.getElem?_eq_getElem hi, hs] at h
  exact ⟨_, h⟩
/-- A packet's cells. -/
theorem pkt_open {n : Nat} {cs : List Value} {x : DataW H × List MemPlace} (h : DataW.trod enc Tryd.prog w base spare held n 35 cs = some x) : ∃ p : Ea.Pkt, cs = pktList p := by
  obtain ⟨xs, m, _, _, hl, hx, hf⟩ := DataW.trod_struct Tryd.underlying35 h
  have hC : Tryd.prog.cellsOf 35 = 8 := by kernel_rfl
  have hI : Tryd.prog.cellsOf 3 = 1 := by kernel_rfl
  have hB : Tryd.prog.cellsOf 4 = 1 := by kernel_rfl
  rw [hC] at hl
  have hx8 : xs.length = 8 := hx
  obtain ⟨c0, c1, c2, c3, c4, c5, c6, c7, rfl⟩ := cells8 hl
  obtain ⟨_, f0⟩ := field_at (by omega) (hf 0 _ rfl) hI
  obtain ⟨_, f1⟩ := field_at (by omega) (hf 1 _ rfl) hI
  obtain ⟨_, f2⟩ := field_at (by omega) (hf 2 _ rfl) hI
  obtain ⟨_, f3⟩ := field_at (by omega) (hf 3 _ rfl) hI
  obtain ⟨_, f4⟩ := field_at (by omega) (hf 4 _ rfl) hI
  obtain ⟨_, f5⟩ := field_at (by omega) (hf 5 _ rfl) hI
  obtain ⟨_, f6⟩ := field_at (by omega) (hf 6 _ rfl) hB
  obtain ⟨_, f7⟩ := field_at (by omega) (hf 7 _ rfl) hB
  obtain ⟨z0, rfl⟩ := int_cell (v := c0) f0
  obtain ⟨z1, rfl⟩ := int_cell (v := c1) f1
  obtain ⟨z2, rfl⟩ := int_cell (v := c2) f2
  obtain ⟨z3, rfl⟩ := int_cell (v := c3) f3
  obtain ⟨z4, rfl⟩ := int_cell (v := c4) f4
  obtain ⟨z5, rfl⟩ := int_cell (v := c5) f5
  obtain ⟨z6, rfl⟩ := bool_cell (v := c6) f6
  obtain ⟨z7, rfl⟩ := bool_cell (v := c7) f7
  exact ⟨⟨z0, z1, z2, z3, z4, z5, z6, z7⟩, rfl⟩
theorem item_open {n : Nat} {cs : List Value} {x : DataW H × List MemPlace} (h : DataW.trod enc Tryd.prog w base spare held n 37 cs = some x) : ∃ it : Ea.Item, cs = itemList it := by
  obtain ⟨xs, m, _, _, hl, hx, hf⟩ := DataW.trod_struct Tryd.underlying37 h
  have hC : Tryd.prog.cellsOf 37 = 9 := by kernel_rfl
  have hI : Tryd.prog.cellsOf 3 = 1 := by kernel_rfl
  have hP : Tryd.prog.cellsOf 35 = 8 := by kernel_rfl
  rw [hC] at hl
  have hx2 : xs.length = 2 := hx
  obtain ⟨c0, c1, c2, c3, c4, c5, c6, c7, c8, rfl⟩ := cells9 hl
  obtain ⟨_, f0⟩ := field_at (by omega) (hf 0 _ rfl) hP
  obtain ⟨_, f1⟩ := field_at (by omega) (hf 1 _ rfl) hI
  obtain ⟨p, hp⟩ := pkt_open (cs := [c0, c1, c2, c3, c4, c5, c6, c7]) f0
  obtain ⟨z8, rfl⟩ := int_cell (v := c8) f1
  simp only [pktList, List.cons.injEq, and_true] at hp
  obtain ⟨rfl, rfl, rfl, rfl, rfl, rfl, rfl, rfl⟩ := hp
  exact ⟨⟨p, z8⟩, rfl⟩
/-- A packet by value. -/
theorem pkt_val {r : Reach} {b0 : Nat} {v : Value} {dt : DataW H} {p : List MemPlace} (hv : Value.okWide Tryd.prog w r b0 35 v) (h : DataW.Trod enc Tryd.prog w base spare held 35 v dt p) : ∃ k : Ea.Pkt, v = pktVal k := by
  obtain ⟨cs, rfl, _⟩ := Go.WideShapes.okWide_struct Tryd.underlying35 hv
  obtain ⟨fuel, hf⟩ := h
  obtain ⟨k, e⟩ := pkt_open (cs := cs.toList) hf
  exact ⟨k, by rw [show cs = (pktList k).toArray by rw [← e]]⟩
/-- A slice of waiting packets. -/
theorem items_open {n : Nat} {v : Value} {x : DataW H × List MemPlace} (h : DataW.trod enc Tryd.prog w base spare held n 33 [v] = some x) : ∃ a len cap xs, v = .slice a len cap ∧ RdQ w a len xs ∧ (len : Int) ≤ 9223372036854775807 := by
  rcases Go.Deep.open_slice Tryd.underlying33 h with ⟨hcs, _⟩ | ⟨y, l, c, m, n, D, Pl, hcs, _, hl, hm, hmm, _, hx⟩
  · simp only [List.cons.injEq, and_true] at hcs
    exact ⟨none, 0, 0, [], hcs, ⟨rfl, fun i hi => absurd hi (Nat.not_lt_zero i)⟩, by omega⟩
  · simp only [List.cons.injEq, and_true] at hcs
    have hge : l ≤ m := by rw [hmm]; split <;> omega
    have hC : Tryd.prog.cellsOf 37 = 9 := by kernel_rfl
    rw [hC] at hx
    have each : ∀ i, i < l → ∃ it : Ea.Item, ∀ j v, (itemList it)[j]? = some v → w.cell? ((y.add (i * 9)).add j) = some v := by
      intro i hi
      obtain ⟨cs, h1, h2⟩ := hx i (by omega)
      obtain ⟨_, hlen, hcell⟩ := World.cells?_some h1
      obtain ⟨it, e⟩ := item_open h2
      refine ⟨it, fun j v hv => ?_⟩
      have hj : j < 9 := (List.getElem?_eq_some_iff.1 hv).1
      rw [hcell j hj, e]
      exact hv
    obtain ⟨f, hf⟩ := Go.Deep.choose_lt each
    refine ⟨some y, l, c, (List.range l).map f, hcs, ⟨by simp, fun i hi => ?_⟩, maxLen_int (Nat.le_trans hl hm)⟩
    have e : ((List.range l).map f).getD i default = f i := by
      rw [List.getD_eq_getElem?_getD, List.getElem?_map, List.getElem?_range hi]
      rfl
    have hy : y = ⟨y.block, y.off, none⟩ := by
      have h0 := hf 0 (by omega) 0 _ rfl
      rw [show (y.add (0 * 9)).add 0 = y from by rw [Nat.zero_mul]; obtain ⟨b, o, s⟩ := y; unfold Addr.add; cases s <;> rfl] at h0
      obtain ⟨yb, yo, ys⟩ := y
      have := World.cell?_spot h0
      simp only at this
      subst this
      rfl
    refine ⟨y.block, y.off, by rw [← hy], fun j v hv => ?_⟩
    rw [e] at hv
    have h1 := hf i hi j v hv
    rw [hy, Addr.add_mid, Addr.add_mid] at h1
    exact h1
/-- A slice of lists. -/
theorem lists_open {n : Nat} {v : Value} {x : DataW H × List MemPlace} (h : DataW.trod enc Tryd.prog w base spare held n 24 [v] = some x) : ∃ la ln lc, v = .slice la ln lc ∧ RdLs w la ln ∧ (ln : Int) ≤ 9223372036854775807 := by
  rcases Go.Deep.open_slice Tryd.underlying24 h with ⟨hcs, _⟩ | ⟨y, l, c, m, n, D, Pl, hcs, _, hl, hm, hmm, _, hx⟩
  · simp only [List.cons.injEq, and_true] at hcs
    exact ⟨none, 0, 0, hcs, fun i hi => absurd hi (Nat.not_lt_zero i), by omega⟩
  · simp only [List.cons.injEq, and_true] at hcs
    have hge : l ≤ m := by rw [hmm]; split <;> omega
    have hC : Tryd.prog.cellsOf 33 = 1 := by kernel_rfl
    rw [hC] at hx
    refine ⟨some y, l, c, hcs, fun i hi => ?_, maxLen_int (Nat.le_trans hl hm)⟩
    obtain ⟨cs, h1, h2⟩ := hx i (by omega)
    obtain ⟨_, hlen, hcell⟩ := World.cells?_some h1
    match cs, hlen with
    | [u], _ =>
      obtain ⟨a, len, cap, xs, rfl, hr, hn⟩ := items_open h2
      have h0 := hcell 0 (by omega)
      rw [Nat.mul_one, show (y.add i).add 0 = y.add i from by obtain ⟨b, o, s⟩ := y; unfold Addr.add; cases s <;> rfl] at h0
      exact ⟨y, a, len, cap, xs, rfl, h0, hr, hn⟩
/-- A queue by value. -/
theorem queue_val {r : Reach} {b0 : Nat} {v : Value} {dt : DataW H} {p : List MemPlace} (hv : Value.okWide Tryd.prog w r b0 28 v) (h : DataW.Trod enc Tryd.prog w base spare held 28 v dt p) :
    ∃ (kind A B C room : Int) (la : Option Addr) (ln lc : Nat) (v0 v1 v2 v3 v4 v5 v6 v7 : Int) (seed : Nat), v = .agg #[.int .i64 kind, .int .i64 A, .int .i64 B, .int .i64 C, .int .i64 room, .slice la ln lc, .int .i64 v0, .int .i64 v1, .int .i64 v2, .int .i64 v3, .int .i64 v4, .int .i64 v5, .int .i64 v6, .int .i64 v7, .int .u64 (seed : Int)] ∧ RdLs w la ln ∧ (ln : Int) ≤ 9223372036854775807 ∧ seed < 18446744073709551616 := by
  obtain ⟨cs, rfl, _⟩ := Go.WideShapes.okWide_struct Tryd.underlying28 hv
  obtain ⟨fuel, hq⟩ := h
  obtain ⟨xs, m, _, _, hl, hx, hf⟩ := DataW.trod_struct (cs := cs.toList) Tryd.underlying28 hq
  have hC : Tryd.prog.cellsOf 28 = 15 := by kernel_rfl
  have hI : Tryd.prog.cellsOf 3 = 1 := by kernel_rfl
  have hL : Tryd.prog.cellsOf 24 = 1 := by kernel_rfl
  have hV : Tryd.prog.cellsOf 25 = 8 := by kernel_rfl
  have hU : Tryd.prog.cellsOf 26 = 1 := by kernel_rfl
  have hP : Tryd.prog.cellsOf 23 = 4 := by kernel_rfl
  rw [hC] at hl
  have hx5 : xs.length = 5 := hx
  obtain ⟨c0, c1, c2, c3, c4, c5, c6, c7, c8, c9, c10, c11, c12, c13, c14, hcs⟩ := cells15 hl
  rw [hcs] at hf
  obtain ⟨_, f0⟩ := field_at (by omega) (hf 0 _ rfl) hP
  obtain ⟨_, f1⟩ := field_at (by omega) (hf 1 _ rfl) hI
  obtain ⟨_, f2⟩ := field_at (by omega) (hf 2 _ rfl) hL
  obtain ⟨_, f3⟩ := field_at (by omega) (hf 3 _ rfl) hV
  obtain ⟨_, f4⟩ := field_at (by omega) (hf 4 _ rfl) hU
  obtain ⟨kind, A, B, C, e1⟩ : ∃ kind A B C : Int, [c0, c1, c2, c3] = [.int .i64 kind, .int .i64 A, .int .i64 B, .int .i64 C] := by
    obtain ⟨ys, m', _, _, _, hy, hg⟩ := DataW.trod_struct (cs := [c0, c1, c2, c3]) Tryd.underlying23 f0
    have hy4 : ys.length = 4 := hy
    obtain ⟨_, g0⟩ := field_at (by omega) (hg 0 _ rfl) hI
    obtain ⟨_, g1⟩ := field_at (by omega) (hg 1 _ rfl) hI
    obtain ⟨_, g2⟩ := field_at (by omega) (hg 2 _ rfl) hI
    obtain ⟨_, g3⟩ := field_at (by omega) (hg 3 _ rfl) hI
    obtain ⟨z0, rfl⟩ := int_cell (v := c0) g0
    obtain ⟨z1, rfl⟩ := int_cell (v := c1) g1
    obtain ⟨z2, rfl⟩ := int_cell (v := c2) g2
    obtain ⟨z3, rfl⟩ := int_cell (v := c3) g3
    exact ⟨z0, z1, z2, z3, rfl⟩
  obtain ⟨room, rfl⟩ := int_cell (v := c4) f1
  obtain ⟨la, ln, lc, rfl, hls, hln⟩ := lists_open (v := c5) f2
  obtain ⟨v0, v1, v2, v3, v4, v5, v6, v7, e2⟩ : ∃ v0 v1 v2 v3 v4 v5 v6 v7 : Int, [c6, c7, c8, c9, c10, c11, c12, c13] = [.int .i64 v0, .int .i64 v1, .int .i64 v2, .int .i64 v3, .int .i64 v4, .int .i64 v5, .int .i64 v6, .int .i64 v7] := by
    obtain ⟨ys, m', _, _, _, hy, hg⟩ := DataW.trod_array (cs := [c6, c7, c8, c9, c10, c11, c12, c13]) Tryd.underlying25 f3
    have hy8 : ys.length = 8 := hy
    rw [hI] at hg
    have g0 := hg 0 (by omega)
    have g1 := hg 1 (by omega)
    have g2 := hg 2 (by omega)
    have g3 := hg 3 (by omega)
    have g4 := hg 4 (by omega)
    have g5 := hg 5 (by omega)
    have g6 := hg 6 (by omega)
    have g7 := hg 7 (by omega)
    rw [List.getElem?_eq_getElem (by omega)] at g0 g1 g2 g3 g4 g5 g6 g7
    obtain ⟨z0, rfl⟩ := int_cell (v := c6) g0
    obtain ⟨z1, rfl⟩ := int_cell (v := c7) g1
    obtain ⟨z2, rfl⟩ := int_cell (v := c8) g2
    obtain ⟨z3, rfl⟩ := int_cell (v := c9) g3
    obtain ⟨z4, rfl⟩ := int_cell (v := c10) g4
    obtain ⟨z5, rfl⟩ := int_cell (v := c11) g5
    obtain ⟨z6, rfl⟩ := int_cell (v := c12) g6
    obtain ⟨z7, rfl⟩ := int_cell (v := c13) g7
    exact ⟨z0, z1, z2, z3, z4, z5, z6, z7, rfl⟩
  obtain ⟨s, hs, hwf⟩ := DataW.trod_int Tryd.underlying26 f4
  have hs' : c14 = .int .u64 s := by
    have : [c14] = [.int .u64 s] := hs
    simpa using this
  have hb : 0 ≤ s ∧ s ≤ 18446744073709551615 := by
    have h2 := hwf.2
    simp [Lit.wf, IntKind.min, IntKind.max, IntKind.signed, IntKind.bits] at h2
    omega
  simp only [List.cons.injEq, and_true] at e1 e2
  obtain ⟨rfl, rfl, rfl, rfl⟩ := e1
  obtain ⟨rfl, rfl, rfl, rfl, rfl, rfl, rfl, rfl⟩ := e2
  subst hs'
  refine ⟨kind, A, B, C, room, la, ln, lc, v0, v1, v2, v3, v4, v5, v6, v7, s.toNat, ?_, hls, hln, by omega⟩
  have : cs = cs.toList.toArray := by simp
  rw [this, hcs, Int.toNat_of_nonneg hb.1]
end
end Go.Proofs.YtfeemiamjmmolaaDoor
