/- Small words on memory: what lay below stays as it was, over new blocks and draws. -/
import Derived.Below
import Derived.WalkKit
import Derived.Deep.Draws
namespace Go.Proofs.YtfeemiamjmmolaaDoor
open Go.RowKit

theorem below_new {w W : World} (h : Below w.heap.size w W) (o : Obj) : Below w.heap.size w (W.alloc o) := h.alloc h.size o
theorem below_drawn {B : Nat} {w W : World} (h : Below B w W) : Below B w W.drew := ⟨h.os, h.tape, h.output, h.size, h.block⟩
theorem below_drawnN {B : Nat} {w W : World} (h : Below B w W) (n : Nat) : Below B w (W.drewN n) := ⟨h.os, h.tape, h.output, h.size, h.block⟩
/-- What a later call leaves. -/
theorem below_on {w W V : World} (h : Below w.heap.size w W) (k : Below W.heap.size W V) : Below w.heap.size w V :=
  h.trans ⟨k.os, k.tape, k.output, k.size, fun i hi => k.block i (Nat.lt_of_lt_of_le hi h.size)⟩
theorem below_set {w W : World} (h : Below w.heap.size w W) {p : Addr} (hp : w.heap.size ≤ p.block) (u : Value) : Below w.heap.size w (W.setCell p u) := h.setCell hp u
theorem below_cell_of {w w1 : World} (h : Below w.heap.size w w1) {a : Addr} {v : Value} (hc : w.cell? a = some v) : w1.cell? a = some v := (h.cell (World.block_lt_of_cell? w a hc)).trans hc
theorem below_frozen_of {w w1 : World} (h : Below w.heap.size w w1) {a : Addr} (hc : a.block < w.heap.size) (hf : w.frozen? a = false) : w1.frozen? a = false := (h.frozen hc).trans hf
theorem ret_bool {a b : Bool} (h : a = b) : Ending.returned (.bool a) = Ending.returned (.bool b) := by rw [h]
theorem ret_int {k : IntKind} {a b : Int} (h : a = b) : Ending.returned (.int k a) = Ending.returned (.int k b) := by rw [h]
end Go.Proofs.YtfeemiamjmmolaaDoor
