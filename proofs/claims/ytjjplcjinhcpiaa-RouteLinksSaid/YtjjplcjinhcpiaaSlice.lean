/- Small words on slices of numbers: a slice that is read, and one of the call's own that grows. -/
import Derived.Test.YtjjplcjinhcpiaaMem
import Derived.Laws.OwnMore
import Derived.OwnWalk
namespace Go.Proofs.Ytjjplcjinhcpiaa
open Go.RowKit

/-- The slice value with this address and length reads as these numbers. -/
def RdI (w : World) (k : IntKind) (a : Option Addr) (n : Nat) (zs : List Int) : Prop :=
  zs.length = n ∧ ∀ i, i < n → ∃ ad, a = some ad ∧ w.cell? (ad.add i) = some (.int k (zs.getD i 0))
theorem below_undrew {B : Nat} {w W : World} (h : Below B w W.drew) : Below B w W := ⟨h.os, h.tape, h.output, h.size, h.block⟩
theorem RdI.below {w w1 : World} {k : IntKind} {a : Option Addr} {n : Nat} {zs : List Int} (h : RdI w k a n zs) (hb : Below w.heap.size w w1) : RdI w1 k a n zs :=
  ⟨h.1, fun i hi => by
    obtain ⟨ad, e, hc⟩ := h.2 i hi
    exact ⟨ad, e, below_cell_of hb hc⟩⟩
theorem RdI.mem {w : World} {k : IntKind} {a : Option Addr} {n : Nat} {zs : List Int} (h : RdI w k a n zs) {i : Nat} (hi : i < n) : zs.getD i 0 ∈ zs := by
  have hl := h.1
  rw [List.getD_eq_getElem?_getD, List.getElem?_eq_getElem (by omega)]
  exact List.getElem_mem _
/-- A growing row elsewhere. -/
theorem RdI.grown {w w' : World} {k : IntKind} {a : Option Addr} {n : Nat} {zs : List Int} {row : Option Nat} (h : RdI w k a n zs) (hg : w.grownBy w' row) (hne : ∀ ad, a = some ad → some ad.block ≠ row) : RdI w' k a n zs :=
  ⟨h.1, fun i hi => by
    obtain ⟨ad, e, hc⟩ := h.2 i hi
    refine ⟨ad, e, hg.cell hc ?_⟩
    have e3 : (ad.add i).block = ad.block := by unfold Addr.add; split <;> rfl
    rw [e3]
    exact hne ad e⟩
theorem grown_frozen {w w' : World} {row : Option Nat} (hg : w.grownBy w' row) {a : Addr} (hl : a.block < w.heap.size) (h : w.frozen? a = false) (hne : some a.block ≠ row) : w'.frozen? a = false :=
  (World.frozen?_of_block (hg.block a.block hl hne)).trans h
theorem cell_set_ne {w : World} {a p : Addr} {u v : Value} (h : w.cell? a = some v) (hne : a.block ≠ p.block) : (w.setCell p u).cell? a = some v := by
  rw [World.cell?_setCell_other w p a u (fun e => hne (by rw [e]))]; exact h
theorem RdI.set {w : World} {k : IntKind} {a : Option Addr} {n : Nat} {zs : List Int} (h : RdI w k a n zs) {p : Addr} (u : Value) (hne : ∀ ad, a = some ad → ad.block ≠ p.block) : RdI (w.setCell p u) k a n zs :=
  ⟨h.1, fun i hi => by
    obtain ⟨ad, e, hc⟩ := h.2 i hi
    refine ⟨ad, e, cell_set_ne hc ?_⟩
    have e3 : (ad.add i).block = ad.block := by unfold Addr.add; split <;> rfl
    rw [e3]
    exact hne ad e⟩
/-- A row of the call's own, read. -/
theorem RdI.of_own {w : World} {base e n c : Nat} {k : IntKind} {a : Option Addr} {zs : List Int} (h : w.ownsRow base e 1 (.slice a n c) n (zs.map (Value.int k))) : RdI w k a n zs := by
  have hl : zs.length = n := by have := h.1; simpa using this
  refine ⟨hl, fun i hi => ?_⟩
  have hf : ∃ g, a = some ⟨g, 0, none⟩ := by
    rcases h.2 with ⟨_, h0⟩ | ⟨g, cap, cur, hv, _⟩
    · omega
    · exact ⟨g, by injection hv⟩
  obtain ⟨g, hA⟩ := hf
  subst hA
  refine ⟨_, rfl, ?_⟩
  have hc := h.cells (g := g) rfl i (.int k (zs.getD i 0)) (by
    rw [List.getElem?_map, List.getElem?_eq_getElem (by omega), List.getD_eq_getElem?_getD, List.getElem?_eq_getElem (by omega)]; rfl)
  exact hc
theorem own_slice {w : World} {base e n : Nat} {v : Value} {xs : List Value} (h : w.ownsRow base e 1 v n xs) : ∃ a c, v = .slice a n c := by
  rcases h.2 with ⟨hv, h0⟩ | ⟨g, cap, cur, hv, _⟩
  · subst h0
    exact ⟨_, _, hv⟩
  · exact ⟨_, _, hv⟩
theorem own_base' {w : World} {base e n : Nat} {v : Value} {xs : List Value} (h : w.ownsRow base e 1 v n xs) : ∀ j, v.ownBlock = some j → base ≤ j := by
  intro j hj
  rcases h.2 with ⟨rfl, _⟩ | ⟨g, cap, cur, rfl, hb, _⟩
  · simp [Value.ownBlock] at hj
  · have : g = j := by simpa [Value.ownBlock] using hj
    omega
/-- What is owned stays so over what a later call leaves. -/
theorem own_below {w w1 : World} {base e n : Nat} {v : Value} {xs : List Value} (h : w.ownsRow base e 1 v n xs) (hb : Below w.heap.size w w1) : w1.ownsRow base e 1 v n xs :=
  h.kept (row := some w.heap.size) ⟨hb.os, hb.tape, hb.output, hb.size, fun i hi _ => hb.block i hi⟩ (by
    cases hv : v.ownBlock with
    | none => exact Or.inl rfl
    | some j => exact Or.inr (fun hc => by injection hc with hc; have := (h.lt j hv).2; omega))
theorem take_map_succ (zs : List Int) (f : Int → Value) (k : Nat) (hk : k < zs.length) : (zs.take (k + 1)).map f = (zs.take k).map f ++ [f (zs.getD k 0)] := by
  rw [List.take_add_one, List.getD_eq_getElem?_getD, List.getElem?_eq_getElem hk, List.map_append]
  rfl
end Go.Proofs.Ytjjplcjinhcpiaa
