/- Arguments of package route opened: paths and slices of paths. -/
import Derived.Test.YtjjplcjinhcpiaaRoCheck
import Derived.Deep.Slices
import Derived.Deep.Strs
import Derived.ProofKit
import Derived.Lib.SmallJoins
namespace Go.Proofs.Ytjjplcjinhcpiaa
open Go.RowKit Go.ChangeShapes

theorem maxLen_int {n : Nat} (h : n ≤ maxLen) : (n : Int) ≤ 9223372036854775807 := by
  simp [maxLen] at h
  omega
/-- A path's three cells. -/
theorem path_open {H : Type} {enc : TypeId × Value → H} {base : Nat} {spare held} {w : World} {n0 n1 n2 : Nat} {v0 v1 v2 : Value} {y0 y1 y2 : DataW H × List MemPlace}
    (h0 : DataW.trod enc Try.prog w base spare held n0 24 [v0] = some y0) (h1 : DataW.trod enc Try.prog w base spare held n1 3 [v1] = some y1) (h2 : DataW.trod enc Try.prog w base spare held n2 4 [v2] = some y2) :
    ∃ p : PathV, v0 = .slice p.a p.len p.cap ∧ v1 = .int .i64 p.back ∧ v2 = .bool p.up ∧ p.In w ∧ p.len ≤ p.cap := by
  obtain ⟨b, hb, _, _⟩ := DataW.trod_int Try.underlying3 h1
  obtain ⟨u, hu, _⟩ := DataW.trod_bool Try.underlying4 h2
  simp only [List.cons.injEq, and_true] at hb hu
  rcases open_ints Try.underlying24 Try.underlying3 (by kernel_rfl) h0 with ⟨hcs, _⟩ | ⟨y, l, c, zs, hcs, _, hl, hm, hz, _, hcell, _⟩
  · simp only [List.cons.injEq, and_true] at hcs
    exact ⟨⟨none, 0, 0, [], b, u⟩, hcs, hb, hu, ⟨⟨rfl, fun i hi => absurd hi (Nat.not_lt_zero i)⟩, by show ((0 : Nat) : Int) ≤ _; omega⟩, Nat.le_refl _⟩
  · simp only [List.cons.injEq, and_true] at hcs
    have hge : l ≤ zs.length := by rw [hz]; split <;> omega
    refine ⟨⟨some y, l, c, zs.take l, b, u⟩, hcs, hb, hu, ⟨⟨by show (zs.take l).length = l; rw [List.length_take]; omega, fun i hi => ⟨y, rfl, ?_⟩⟩, maxLen_int (Nat.le_trans hl hm)⟩, hl⟩
    have hil : i < l := hi
    show w.cell? (y.add i) = some (.int .i64 ((zs.take l).getD i 0))
    rw [hcell i (by omega)]
    congr 2
    rw [List.getD_eq_getElem?_getD, List.getD_eq_getElem?_getD, List.getElem?_take_of_lt hil]
theorem three_cells {cs : List Value} (h : cs.length = 3) : ∃ a b c, cs = [a, b, c] := by
  match cs, h with
  | [a, b, c], _ => exact ⟨a, b, c, rfl⟩
/-- A slice of paths. -/
theorem paths_open {H : Type} {enc : TypeId × Value → H} {base : Nat} {spare held} {w : World} {a : Option Addr} {len cap : Nat} {x : DataW H × List MemPlace}
    (h : ∃ fuel, DataW.trod enc Try.prog w base spare held fuel 23 (Value.slice a len cap).cells.toList = some x) : ∃ ps, RdP w a len ps ∧ (len : Int) ≤ 9223372036854775807 := by
  obtain ⟨fuel, hf⟩ := h
  rcases Go.Deep.open_slice Try.underlying23 hf with ⟨hcs, _⟩ | ⟨y, l, c, m, n, D, Pl, hcs, _, hl, hm, hmm, _, hx⟩
  · simp [Value.cells] at hcs
    obtain ⟨rfl, rfl, rfl⟩ := hcs
    exact ⟨[], ⟨rfl, fun i hi => absurd hi (Nat.not_lt_zero i)⟩, by omega⟩
  · simp [Value.cells] at hcs
    obtain ⟨rfl, rfl, rfl⟩ := hcs
    have hge : len ≤ m := by rw [hmm]; split <;> omega
    have hC : Try.prog.cellsOf 26 = 3 := by kernel_rfl
    rw [hC] at hx
    have each : ∀ i, i < len → ∃ p : PathV, w.cell? (y.add (i * 3)) = some (.slice p.a p.len p.cap) ∧ w.cell? ⟨(y.add (i * 3)).block, (y.add (i * 3)).off + 1, none⟩ = some (.int .i64 p.back) ∧ w.cell? ⟨(y.add (i * 3)).block, (y.add (i * 3)).off + 2, none⟩ = some (.bool p.up) ∧ p.In w := by
      intro i hi
      obtain ⟨cs, h1, h2⟩ := hx i (by omega)
      obtain ⟨_, hlen, hcell⟩ := World.cells?_some h1
      obtain ⟨c0, c1, c2, rfl⟩ := three_cells hlen
      obtain ⟨y0, y1, y2, n', _, _, t0, t1, t2⟩ := Go.Deep.trod_struct3 Try.underlying26 h2
      obtain ⟨p, e0, e1, e2, hin, _⟩ := path_open t0 t1 t2
      refine ⟨p, ?_, ?_, ?_, hin⟩
      · rw [← e0]; exact hcell 0 (by omega)
      · rw [← e1]; exact hcell 1 (by omega)
      · rw [← e2]; exact hcell 2 (by omega)
    obtain ⟨f, hf⟩ := Go.Deep.choose_lt each
    refine ⟨(List.range len).map f, ⟨by simp, fun i hi => ⟨y, rfl, ?_⟩⟩, maxLen_int (Nat.le_trans hl hm)⟩
    have e : ((List.range len).map f).getD i default = f i := by
      rw [List.getD_eq_getElem?_getD, List.getElem?_map, List.getElem?_range hi]
      rfl
    rw [e]
    exact hf i hi
end Go.Proofs.Ytjjplcjinhcpiaa
