/- The listed variable of package random: what the row's condition says of memory, and a world that meets it. -/
import Derived.Test.YtfeemiamjmmolaaDoorRows
import Derived.Test.YtfeemiamjmmolaaDoorRandWalk
import Derived.ChangeSame
import Derived.ChangeVars
import Derived.JoinedOf
import Derived.RowKit
import Derived.LaidLaws
import Derived.LaidHandle
import Derived.OpenShut
import Derived.Stop.Joined
namespace Go.Proofs.YtfeemiamjmmolaaDoor
open Go.ChangeShapes Go.WideShapes Go.RowKit

theorem ownKnob_none : ownKnob Tryd.prog.godebug = none := by kernel_rfl
theorem mixing_at : Tryd.prog.globalNamed "queuelab/random.mixing" = some 0 := by kernel_rfl
theorem mixing_type : (Tryd.prog.globals[0]?).map (·.type) = some 68 := by kernel_rfl
theorem mixing_cells : Tryd.prog.cellsOf 68 = 6 := by kernel_rfl
theorem pair_cells : Tryd.prog.cellsOf 67 = 2 := by kernel_rfl
theorem uint_cells : Tryd.prog.cellsOf 66 = 1 := by kernel_rfl
theorem uint64_cells : Tryd.prog.cellsOf 26 = 1 := by kernel_rfl

/-- The cells of the table. -/
def cells6 : Array Value := #[.int .u64 30, .int .u64 13787848793156543929, .int .u64 27, .int .u64 10723151780598845931, .int .u64 31, .int .u64 1]

theorem pair_of_trod {H : Type} {enc : TypeId × Value → H} {w : World} {base : Nat} {sp : Nat → Bool} {held : Bool} {fuel : Nat} {c0 c1 : Value} {a b : Int} {ps : List MemPlace}
    (h : DataW.trod enc Tryd.prog w base sp held fuel 67 [c0, c1] = some (.agg [.lit (.int .u64 a), .lit (.int .u64 b)], ps)) : c0 = .int .u64 a ∧ c1 = .int .u64 b := by
  obtain ⟨y0, y1, n, hx, _, h0, h1⟩ := trod_struct2 Tryd.underlying67 h
  simp only [uint_cells, uint64_cells] at h0 h1
  obtain ⟨m0, e0, r0, _⟩ := DataW.trod_int Tryd.underlying66 h0
  obtain ⟨m1, e1, r1, _⟩ := DataW.trod_int Tryd.underlying26 h1
  simp at e0 e1
  subst e0 e1 r0 r1
  simp at hx
  obtain ⟨⟨rfl, rfl⟩, _⟩ := hx
  exact ⟨rfl, rfl⟩

theorem cells_of_laid {W : World} (h : laidMetH Tryd.prog [("queuelab/random.mixing", Rows.laid_queuelab_random_mixing)] W) : W.var? Tryd.prog "queuelab/random.mixing" = some cells6 := by
  have h' : laidMet Tryd.prog [("queuelab/random.mixing", Rows.laid_queuelab_random_mixing)] W := h
  obtain ⟨ps, ⟨g, t, cs, fuel, p, q, hg, ht, hvar, hd, _, _⟩, _⟩ := h'
  obtain rfl := Option.some.inj (mixing_at.symm.trans hg)
  obtain rfl := Option.some.inj (mixing_type.symm.trans ht)
  rw [hvar]
  congr 1
  obtain ⟨l⟩ := cs
  obtain ⟨xs, m, _, hx, hl, hlen, hi⟩ := DataW.trod_array Tryd.underlying68 hd
  rw [mixing_cells] at hl
  simp only [pair_cells] at hi
  obtain ⟨c0, c1, c2, c3, c4, c5, rfl⟩ : ∃ c0 c1 c2 c3 c4 c5, l = [c0, c1, c2, c3, c4, c5] := by
    match l, hl with
    | [a, b, c, d, e, f], _ => exact ⟨a, b, c, d, e, f, rfl⟩
  have h0 := hi 0 (by omega)
  have h1 := hi 1 (by omega)
  have h2 := hi 2 (by omega)
  match xs, hlen with
  | [y0, y1, y2], _ =>
    obtain ⟨d0, p0⟩ := y0
    obtain ⟨d1, p1⟩ := y1
    obtain ⟨d2, p2⟩ := y2
    simp [Rows.laid_queuelab_random_mixing] at hx
    obtain ⟨⟨rfl, rfl, rfl⟩, _⟩ := hx
    simp at h0 h1 h2
    obtain ⟨rfl, rfl⟩ := pair_of_trod h0
    obtain ⟨rfl, rfl⟩ := pair_of_trod h1
    obtain ⟨rfl, rfl⟩ := pair_of_trod h2
    rfl

theorem table_of_laid {W : World} (h : laidMetH Tryd.prog [("queuelab/random.mixing", Rows.laid_queuelab_random_mixing)] W) : Table W := by
  have hv := cells_of_laid h
  exact ⟨World.var?_cell mixing_at hv 0, World.var?_cell mixing_at hv 1, World.var?_cell mixing_at hv 2, World.var?_cell mixing_at hv 3, World.var?_cell mixing_at hv 4, World.var?_cell mixing_at hv 5⟩

/-- A world that meets the condition. -/
noncomputable def laidWorld (os : Os) : World :=
  { World.holding Tryd.prog os ⟨#[], #[], []⟩ with heap := (World.holding Tryd.prog os ⟨#[], #[], []⟩).heap.modify 0 fun
      | .cells _ t frozen => .cells cells6 t frozen
      | o => o }
theorem laidWorld_met (os : Os) (args : Array Value) : laidMetH Tryd.prog [("queuelab/random.mixing", Rows.laid_queuelab_random_mixing)] ((laidWorld os).forCall (fun _ _ => 0) ⟨#[], args, []⟩).memory :=
  laidMetH_of_parts (laidMet_of_run' 8 (by kernel_rfl) (by kernel_rfl)) (by kernel_rfl)
end Go.Proofs.YtfeemiamjmmolaaDoor
