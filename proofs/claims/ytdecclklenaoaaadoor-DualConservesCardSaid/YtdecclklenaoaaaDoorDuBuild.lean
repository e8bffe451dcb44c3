/- []api.Packet{p} and []api.Queued{x}, as arms of a walk. -/
import Derived.Test.YtdecclklenaoaaaDoorDuApp
namespace Go.Proofs.YtdecclklenaoaaaDoor
open Go.RowKit

theorem wpList_build_pkt {ops : Array Oper} {rest : List Oper} {o : Oper} {a : Act} {w : World} {Q : Exit → Act → World → Prop} (hgd : o.guard = none) (x : Operand) (ho : o.op = .buildSlice 33 1 #[(0, x)]) (p : Ea.Pkt) (hx : a.eval x = pktVal p)
    (h : wpList Tryd.prog ops Q rest (a.put o.dst (.slice (some ⟨w.heap.size, 0, none⟩) 1 1)) (w.alloc (.cells (pktList p).toArray 30))) : wpList Tryd.prog ops Q (o :: rest) a w :=
  wpList_plain hgd fun _ hK => wp_build_pkt x ho p hx (hK _ _ h)
theorem run_build_item (x : Ea.Item) (w : World) : (Instr.buildSlice 49 1 #[(0, .agg (itemList x).toArray)]).run Tryd.prog w = .ok (.slice (some ⟨w.heap.size, 0, none⟩) 1 1) (w.alloc (.cells (itemList x).toArray 51)) := by
  obtain ⟨i0, hi, hz0, hz1, hz2⟩ := info_parts info_item
  exact run_buildSlice w 49 51 1 _ (itemList x).toArray i0 _ Tryd.underlying49 hi hz0 (by rw [hz1]; decide) (by rw [hz1]; decide) (by rw [hz1]; first | kernel_rfl | (simp [Instr.fill, Value.cells]; done))
theorem wpList_build_item {ops : Array Oper} {rest : List Oper} {o : Oper} {a : Act} {w : World} {Q : Exit → Act → World → Prop} (hgd : o.guard = none) (y : Operand) (ho : o.op = .buildSlice 49 1 #[(0, y)]) (x : Ea.Item) (hx : a.eval y = .agg (itemList x).toArray)
    (h : wpList Tryd.prog ops Q rest (a.put o.dst (.slice (some ⟨w.heap.size, 0, none⟩) 1 1)) (w.alloc (.cells (itemList x).toArray 51))) : wpList Tryd.prog ops Q (o :: rest) a w :=
  wpList_plain hgd fun K hK => by
    unfold Oper.wp execOp
    simp only [ho, Sem.run_bind, List.map_toArray, List.map_cons, List.map_nil, hx, run_build_item, Result.andThen_ok]
    exact hK _ _ h
end Go.Proofs.YtdecclklenaoaaaDoor
