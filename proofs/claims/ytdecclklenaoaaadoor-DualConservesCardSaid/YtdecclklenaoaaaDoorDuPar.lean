/- Arguments opened: a slice of steps. -/
import Derived.Test.YtdecclklenaoaaaDoorEaPar
namespace Go.Proofs.YtdecclklenaoaaaDoor
open Go.RowKit Go.ChangeShapes

structure StepV where
  wait : Int
  take : Bool
  size : Int
  able : Bool
instance : Inhabited StepV := ⟨⟨0, false, 0, false⟩⟩
abbrev stepList (p : StepV) : List Value := [.int .u16 p.wait, .bool p.take, .int .u8 p.size, .bool p.able]
structure StepV.ok (p : StepV) : Prop where
  w0 : 0 ≤ p.wait
  w1 : p.wait ≤ 65535
  s0 : 0 ≤ p.size
  s1 : p.size ≤ 255
/-- The slice with this address and length reads as these steps. -/
def RdS (w : World) (a : Option Addr) (n : Nat) (ks : List StepV) : Prop :=
  ks.length = n ∧ ∀ i, i < n → (∃ b o, a = some ⟨b, o, none⟩ ∧ w.rangeAt b (o + i * 4) (stepList (ks.getD i default))) ∧ (ks.getD i default).ok
theorem window1 {cs : List Value} {o : Nat} {v : Value} (h : (cs.drop o).take 1 = [v]) : cs[o]? = some v := by
  have h1 : ((cs.drop o).take 1)[0]? = some v := by rw [h]; rfl
  rw [List.getElem?_take_of_lt (by omega), List.getElem?_drop] at h1
  exact h1
section
variable {H : Type} {enc : TypeId × Value → H} {w : World} {base : Nat} {spare : Nat → Bool} {held : Bool}
theorem step_open {n : Nat} {cs : List Value} {x : DataW H × List MemPlace} (h : DataW.trod enc Tryd.prog w base spare held n 47 cs = some x) : ∃ p : StepV, cs = stepList p ∧ p.ok := by
  obtain ⟨xs, m, _, _, hl, hx, hf⟩ := DataW.trod_struct Tryd.underlying47 h
  have hC : Tryd.prog.cellsOf 47 = 4 := by kernel_rfl
  have hC16 : Tryd.prog.cellsOf 42 = 1 := by kernel_rfl
  have hC8 : Tryd.prog.cellsOf 5 = 1 := by kernel_rfl
  have hCb : Tryd.prog.cellsOf 4 = 1 := by kernel_rfl
  rw [hC] at hl
  have f0 := hf 0 _ rfl
  have f1 := hf 1 _ rfl
  have f2 := hf 2 _ rfl
  have f3 := hf 3 _ rfl
  have hx4 : xs.length = 4 := hx
  rw [List.getElem?_eq_getElem (by omega)] at f0 f1 f2 f3
  change DataW.trod enc Tryd.prog w base spare held m 42 ((cs.drop 0).take (Tryd.prog.cellsOf 42)) = _ at f0
  change DataW.trod enc Tryd.prog w base spare held m 4 ((cs.drop 1).take (Tryd.prog.cellsOf 4)) = _ at f1
  change DataW.trod enc Tryd.prog w base spare held m 5 ((cs.drop 2).take (Tryd.prog.cellsOf 5)) = _ at f2
  change DataW.trod enc Tryd.prog w base spare held m 4 ((cs.drop 3).take (Tryd.prog.cellsOf 4)) = _ at f3
  rw [hC16] at f0
  rw [hCb] at f1 f3
  rw [hC8] at f2
  obtain ⟨z0, h0, _, w0⟩ := DataW.trod_int Tryd.underlying42 f0
  obtain ⟨z1, h1, _⟩ := DataW.trod_bool Tryd.underlying4 f1
  obtain ⟨z2, h2, _, w2⟩ := DataW.trod_int Tryd.underlying5 f2
  obtain ⟨z3, h3, _⟩ := DataW.trod_bool Tryd.underlying4 f3
  refine ⟨⟨z0, z1, z2, z3⟩, ?_, ?_⟩
  · have g0 : cs[0]? = some (.int .u16 z0) := window1 h0
    have g1 : cs[1]? = some (.bool z1) := window1 h1
    have g2 : cs[2]? = some (.int .u8 z2) := window1 h2
    have g3 : cs[3]? = some (.bool z3) := window1 h3
    apply List.ext_getElem?
    intro i
    by_cases hi : i < 4
    · match i, hi with
      | 0, _ => exact g0
      | 1, _ => exact g1
      | 2, _ => exact g2
      | 3, _ => exact g3
      | _ + 4, h => exact absurd h (by omega)
    · rw [List.getElem?_eq_none (by omega), List.getElem?_eq_none (by show 4 ≤ i; omega)]
  · simp only [Lit.wf, Bool.and_eq_true, decide_eq_true_eq] at w0 w2
    obtain ⟨a0, a1⟩ := w0
    obtain ⟨b0, b1⟩ := w2
    exact ⟨by simpa [IntKind.min, IntKind.signed] using a0, by simpa [IntKind.max, IntKind.signed, IntKind.bits] using a1, by simpa [IntKind.min, IntKind.signed] using b0, by simpa [IntKind.max, IntKind.signed, IntKind.bits] using b1⟩
/-- A slice of steps. -/
theorem steps_open {a : Option Addr} {len cap : Nat} {x : DataW H × List MemPlace} (h : ∃ fuel, DataW.trod enc Tryd.prog w base spare held fuel 43 (Value.slice a len cap).cells.toList = some x) : ∃ ks, RdS w a len ks ∧ (len : Int) ≤ 9223372036854775807 := by
  obtain ⟨fuel, hf⟩ := h
  rcases Go.Deep.open_slice Tryd.underlying43 hf with ⟨hcs, _⟩ | ⟨y, l, c, m, n, D, Pl, hcs, _, hl, hm, hmm, _, hx⟩
  · simp [Value.cells] at hcs
    obtain ⟨rfl, rfl, rfl⟩ := hcs
    exact ⟨[], ⟨rfl, fun i hi => absurd hi (Nat.not_lt_zero i)⟩, by omega⟩
  · simp [Value.cells] at hcs
    obtain ⟨rfl, rfl, rfl⟩ := hcs
    have hge : len ≤ m := by rw [hmm]; split <;> omega
    have hC : Tryd.prog.cellsOf 47 = 4 := by kernel_rfl
    rw [hC] at hx
    have each : ∀ i, i < len → ∃ p : StepV, (∀ j v, (stepList p)[j]? = some v → w.cell? ((y.add (i * 4)).add j) = some v) ∧ p.ok := by
      intro i hi
      obtain ⟨cs, h1, h2⟩ := hx i (by omega)
      obtain ⟨_, hlen, hcell⟩ := World.cells?_some h1
      obtain ⟨p, e, hok⟩ := step_open h2
      refine ⟨p, fun j v hv => ?_, hok⟩
      have hj : j < 4 := (List.getElem?_eq_some_iff.1 hv).1
      rw [hcell j hj, e]
      exact hv
    obtain ⟨f, hf⟩ := Go.Deep.choose_lt each
    refine ⟨(List.range len).map f, ⟨by simp, fun i hi => ?_⟩, maxLen_int (Nat.le_trans hl hm)⟩
    have e : ((List.range len).map f).getD i default = f i := by
      rw [List.getD_eq_getElem?_getD, List.getElem?_map, List.getElem?_range hi]
      rfl
    have hy : y = ⟨y.block, y.off, none⟩ := by
      have h0 := (hf 0 (by omega)).1 0 _ rfl
      rw [show (y.add (0 * 4)).add 0 = y from rfl] at h0
      obtain ⟨yb, yo, ys⟩ := y
      have := World.cell?_spot h0
      simp only at this
      subst this
      rfl
    refine ⟨⟨y.block, y.off, by rw [← hy], fun j v hv => ?_⟩, by rw [e]; exact (hf i hi).2⟩
    rw [e] at hv
    have h1 := (hf i hi).1 j v hv
    rw [hy, Addr.add_mid, Addr.add_mid] at h1
    exact h1
end
end Go.Proofs.YtdecclklenaoaaaDoor
