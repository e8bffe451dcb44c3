/- Arguments opened: a slice of steps of law 19. -/
import Derived.Test.YtfeemiamjmmolaaDoorEaPar
namespace Go.Proofs.YtfeemiamjmmolaaDoor
open Go.RowKit Go.ChangeShapes

structure StepE where
  wait : Int
  take : Bool
  p : Ea.Pkt
instance : Inhabited StepE := ⟨⟨0, false, default⟩⟩
abbrev stepEList (x : StepE) : List Value := [.int .u16 x.wait, .bool x.take, .int .i64 x.p.flow, .int .i64 x.p.sub, .int .i64 x.p.number, .int .i64 x.p.data, .int .i64 x.p.size, .int .i64 x.p.sent, .bool x.p.able, .bool x.p.marked]
/-- The slice with this address and length reads as these steps. -/
def RdE (w : World) (a : Option Addr) (n : Nat) (ks : List StepE) : Prop :=
  ks.length = n ∧ ∀ i, i < n → (∃ b o, a = some ⟨b, o, none⟩ ∧ w.rangeAt b (o + i * 10) (stepEList (ks.getD i default))) ∧ 0 ≤ (ks.getD i default).wait ∧ (ks.getD i default).wait ≤ 65535
theorem window1 {cs : List Value} {o : Nat} {v : Value} (h : (cs.drop o).take 1 = [v]) : cs[o]? = some v := by
  have h1 : ((cs.drop o).take 1)[0]? = some v := by rw [h]; rfl
  rw [List.getElem?_take_of_lt (by omega), List.getElem?_drop] at h1
  exact h1
theorem window8 {cs l : List Value} {o : Nat} (h : (cs.drop o).take 8 = l) (j : Nat) (hj : j < 8) : cs[o + j]? = l[j]? := by
  rw [← h, List.getElem?_take_of_lt hj, List.getElem?_drop]
section
variable {H : Type} {enc : TypeId × Value → H} {w : World} {base : Nat} {spare : Nat → Bool} {held : Bool}
theorem step_open {n : Nat} {cs : List Value} {x : DataW H × List MemPlace} (h : DataW.trod enc Tryd.prog w base spare held n 40 cs = some x) : ∃ p : StepE, cs = stepEList p ∧ 0 ≤ p.wait ∧ p.wait ≤ 65535 := by
  obtain ⟨xs, m, _, _, hl, hx, hf⟩ := DataW.trod_struct Tryd.underlying40 h
  have hC : Tryd.prog.cellsOf 40 = 10 := by kernel_rfl
  have hC16 : Tryd.prog.cellsOf 38 = 1 := by kernel_rfl
  have hCb : Tryd.prog.cellsOf 4 = 1 := by kernel_rfl
  have hCp : Tryd.prog.cellsOf 35 = 8 := by kernel_rfl
  rw [hC] at hl
  have f0 := hf 0 _ rfl
  have f1 := hf 1 _ rfl
  have f2 := hf 2 _ rfl
  have hx3 : xs.length = 3 := hx
  rw [List.getElem?_eq_getElem (by omega)] at f0 f1 f2
  change DataW.trod enc Tryd.prog w base spare held m 38 ((cs.drop 0).take (Tryd.prog.cellsOf 38)) = _ at f0
  change DataW.trod enc Tryd.prog w base spare held m 4 ((cs.drop 1).take (Tryd.prog.cellsOf 4)) = _ at f1
  change DataW.trod enc Tryd.prog w base spare held m 35 ((cs.drop 2).take (Tryd.prog.cellsOf 35)) = _ at f2
  rw [hC16] at f0
  rw [hCb] at f1
  rw [hCp] at f2
  obtain ⟨z0, h0, _, w0⟩ := DataW.trod_int Tryd.underlying38 f0
  obtain ⟨z1, h1, _⟩ := DataW.trod_bool Tryd.underlying4 f1
  obtain ⟨p, h2⟩ := pkt_open f2
  refine ⟨⟨z0, z1, p⟩, ?_, ?_⟩
  · have g0 : cs[0]? = some (.int .u16 z0) := window1 h0
    have g1 : cs[1]? = some (.bool z1) := window1 h1
    have g2 := window8 h2
    apply List.ext_getElem?
    intro i
    by_cases hi : i < 10
    · match i, hi with
      | 0, _ => exact g0
      | 1, _ => exact g1
      | 2, _ => exact g2 0 (by omega)
      | 3, _ => exact g2 1 (by omega)
      | 4, _ => exact g2 2 (by omega)
      | 5, _ => exact g2 3 (by omega)
      | 6, _ => exact g2 4 (by omega)
      | 7, _ => exact g2 5 (by omega)
      | 8, _ => exact g2 6 (by omega)
      | 9, _ => exact g2 7 (by omega)
      | _ + 10, h => exact absurd h (by omega)
    · rw [List.getElem?_eq_none (by omega), List.getElem?_eq_none (by show 10 ≤ i; omega)]
  · simp only [Lit.wf, Bool.and_eq_true, decide_eq_true_eq] at w0
    obtain ⟨a0, a1⟩ := w0
    exact ⟨by simpa [IntKind.min, IntKind.signed] using a0, by simpa [IntKind.max, IntKind.signed, IntKind.bits] using a1⟩
/-- A slice of steps. -/
theorem steps_open {a : Option Addr} {len cap : Nat} {x : DataW H × List MemPlace} (h : ∃ fuel, DataW.trod enc Tryd.prog w base spare held fuel 29 (Value.slice a len cap).cells.toList = some x) : ∃ ks, RdE w a len ks ∧ (len : Int) ≤ 9223372036854775807 := by
  obtain ⟨fuel, hf⟩ := h
  rcases Go.Deep.open_slice Tryd.underlying29 hf with ⟨hcs, _⟩ | ⟨y, l, c, m, n, D, Pl, hcs, _, hl, hm, hmm, _, hx⟩
  · simp [Value.cells] at hcs
    obtain ⟨rfl, rfl, rfl⟩ := hcs
    exact ⟨[], ⟨rfl, fun i hi => absurd hi (Nat.not_lt_zero i)⟩, by omega⟩
  · simp [Value.cells] at hcs
    obtain ⟨rfl, rfl, rfl⟩ := hcs
    have hge : len ≤ m := by rw [hmm]; split <;> omega
    have hC : Tryd.prog.cellsOf 40 = 10 := by kernel_rfl
    rw [hC] at hx
    have each : ∀ i, i < len → ∃ p : StepE, (∀ j v, (stepEList p)[j]? = some v → w.cell? ((y.add (i * 10)).add j) = some v) ∧ 0 ≤ p.wait ∧ p.wait ≤ 65535 := by
      intro i hi
      obtain ⟨cs, h1, h2⟩ := hx i (by omega)
      obtain ⟨_, hlen, hcell⟩ := World.cells?_some h1
      obtain ⟨p, e, hok⟩ := step_open h2
      refine ⟨p, fun j v hv => ?_, hok⟩
      have hj : j < 10 := (List.getElem?_eq_some_iff.1 hv).1
      rw [hcell j hj, e]
      exact hv
    obtain ⟨f, hf⟩ := Go.Deep.choose_lt each
    refine ⟨(List.range len).map f, ⟨by simp, fun i hi => ?_⟩, maxLen_int (Nat.le_trans hl hm)⟩
    have e : ((List.range len).map f).getD i default = f i := by
      rw [List.getD_eq_getElem?_getD, List.getElem?_map, List.getElem?_range hi]
      rfl
    have hy : y = ⟨y.block, y.off, none⟩ := by
      have h0 := (hf 0 (by omega)).1 0 _ rfl
      rw [show (y.add (0 * 10)).add 0 = y from rfl] at h0
      obtain ⟨yb, yo, ys⟩ := y
      have := World.cell?_spot h0
      simp only at this
      subst this
      rfl
    refine ⟨⟨y.block, y.off, by rw [← hy], fun j v hv => ?_⟩, by rw [e]; exact (hf i hi).2⟩
    rw [e] at hv
    have h1 := (hf i hi).1 j v hv
    rw [hy, Addr.add_mid, Addr.add_mid] at h1
    exact h1
end
end Go.Proofs.YtfeemiamjmmolaaDoor
