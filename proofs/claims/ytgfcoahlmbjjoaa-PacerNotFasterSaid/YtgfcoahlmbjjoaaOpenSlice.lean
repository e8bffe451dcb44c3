/- An argument that is a slice of numbers, opened: what it reads as. -/
import Derived.Test.YtgfcoahlmbjjoaaSlice
import Derived.ChangeSlices
import Derived.WideShapes
namespace Go.Proofs.Ytgfcoahlmbjjoaa
open Go.RowKit Go.ChangeShapes

theorem rdI_open {H : Type} {enc : TypeId × Value → H} {P : Program} {base : Nat} {spare held} {w : World} {t e : TypeId} {k : IntKind} {a : Option Addr} {len cap : Nat} {x : DataW H × List MemPlace}
    (ht : P.underlying t = some (.slice e)) (he : P.underlying e = some (.int k)) (hc : P.cellsOf e = 1) (h : ∃ fuel, DataW.trod enc P w base spare held fuel t (Value.slice a len cap).cells.toList = some x) :
    ∃ zs, RdI w k a len zs ∧ ∀ z, z ∈ zs → (Lit.int k z).wf = true := by
  obtain ⟨fuel, hf⟩ := h
  rcases open_ints ht he hc hf with ⟨hcs, _⟩ | ⟨y, l, c, zs, hcs, _, hl, hm, hz, _, hcell, hwz⟩
  · simp [Value.cells] at hcs
    obtain ⟨rfl, rfl, rfl⟩ := hcs
    exact ⟨[], ⟨rfl, fun i hi => absurd hi (Nat.not_lt_zero i)⟩, fun z hz => by cases hz⟩
  · simp [Value.cells] at hcs
    obtain ⟨rfl, rfl, rfl⟩ := hcs
    have hge : len ≤ zs.length := by rw [hz]; split <;> omega
    refine ⟨zs.take len, ⟨by rw [List.length_take]; omega, fun i hi => ⟨y, rfl, ?_⟩⟩, fun z hz' => hwz z (List.mem_of_mem_take hz')⟩
    rw [hcell i (by omega)]
    congr 2
    rw [List.getD_eq_getElem?_getD, List.getD_eq_getElem?_getD, List.getElem?_take_of_lt hi]
end Go.Proofs.Ytgfcoahlmbjjoaa
