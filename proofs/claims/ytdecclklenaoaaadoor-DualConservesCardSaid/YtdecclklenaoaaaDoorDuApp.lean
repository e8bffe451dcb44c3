/- append([]api.Queued{}, l..), and append of one more. -/
import Derived.Test.YtdecclklenaoaaaDoorDuQ
import Derived.Test.YtdecclklenaoaaaDoorEaPk
import Derived.Great.BuildSlice
namespace Go.Proofs.YtdecclklenaoaaaDoor
open Go.RowKit

theorem run_build_pkt (p : Ea.Pkt) (w : World) : (Instr.buildSlice 33 1 #[(0, pktVal p)]).run Tryd.prog w = .ok (.slice (some ⟨w.heap.size, 0, none⟩) 1 1) (w.alloc (.cells (pktList p).toArray 30)) := by
  obtain ⟨i0, hi, hz0, hz1, hz2⟩ := info_parts info_pkt
  exact run_buildSlice w 33 30 1 _ (pktList p).toArray i0 _ Tryd.underlying33 hi hz0 (by rw [hz1]; decide) (by rw [hz1]; decide) (by rw [hz1]; first | kernel_rfl | (simp [Instr.fill, Value.cells]; done) | (simp [Instr.fill, Value.cells, Array.range]; rfl))
theorem wp_build_pkt {o : Oper} {a : Act} {w : World} {K : Act → World → Prop} {Q : Exit → Act → World → Prop} (x : Operand) (ho : o.op = .buildSlice 33 1 #[(0, x)]) (p : Ea.Pkt) (hx : a.eval x = pktVal p)
    (h : K (a.put o.dst (.slice (some ⟨w.heap.size, 0, none⟩) 1 1)) (w.alloc (.cells (pktList p).toArray 30))) : o.wp Tryd.prog a w K Q := by
  unfold Oper.wp execOp
  simp only [ho, Sem.run_bind, List.map_toArray, List.map_cons, List.map_nil, hx, run_build_pkt, Result.andThen_ok]
  exact h
theorem wpList_copy_new {ops : Array Oper} {rest : List Oper} {o : Oper} {a : Act} {w : World} {Q : Exit → Act → World → Prop} {e : Nat} {la : Option Addr} {n c : Nat} {xs : List Ea.Item} (hgd : o.guard = none) (s x : Operand) (ho : o.op = .call { callee := .builtin .append, args := #[s, x], argTypes := #[49, 49] })
    (hs : a.eval s = .slice (some ⟨e, 0, none⟩) 0 0) (hx : a.eval x = .slice la n c) (hk : RdQ w la n xs) (hn : n ≤ 600)
    (h : ∀ a' c' V, OwnL V w.heap.size a' n c' xs → Below w.heap.size w V → wpList Tryd.prog ops Q rest (a.put o.dst (.slice a' n c')) V) : wpList Tryd.prog ops Q (o :: rest) a w := by
  refine wpList_plain hgd fun K hK => ?_
  obtain ⟨i0, hi, hz0, hz1, hz2⟩ := info_parts info_item
  rcases Nat.eq_zero_or_pos n with h0 | h0
  · subst h0
    have hxs : xs = [] := List.eq_nil_of_length_eq_zero hk.1
    have hr : (Builtin.append_ #[49, 49] o.type #[.slice (some ⟨e, 0, none⟩) 0 0, .slice la 0 c]).run Tryd.prog w = .ok (.slice (some ⟨e, 0, none⟩) 0 0) w := by
      cases la <;> simp [Builtin.append_, run_underlying Tryd.underlying49, sizeOf, typeInfo, hi, Builtin.lenOf, Builtin.firstCells, loadCells, loadCellsFrom, storeCells]
    unfold Oper.wp execOp
    simp only [ho, resolve, invoke, builtin, Sem.run_bind, Sem.run_pure, Result.andThen_ok, List.map_toArray, List.map_cons, List.map_nil, hs, hx, hr]
    exact hK _ _ (h _ 0 w (Or.inl ⟨rfl, rfl, hxs⟩) (Below.refl _ _))
  · cases la with
    | none => have := (rdQ_nil hk).1; omega
    | some ad =>
      obtain ⟨b, of, rfl, hrg⟩ := hk.flat' h0
      obtain ⟨v', V, hr, hown, hg⟩ := run_append_arg_grows (P := Tryd.prog) w 49 o.type 51 i0 _ 9 64 Tryd.underlying49 hi hz0 hz1 hz2 rfl (by decide) ⟨e, 0, none⟩ 0 0 [] rfl (fun j u hj => by cases hj) ⟨b, of, none⟩ n c (flatQ xs) (by rw [flatQ_length, hk.1]) (fun j u hj => by rw [Addr.add_mid]; exact hrg j u hj) (by omega) (by unfold maxLen; omega) (by omega)
      rw [Nat.zero_add, List.nil_append] at hown
      unfold Oper.wp execOp
      simp only [ho, resolve, invoke, builtin, Sem.run_bind, Sem.run_pure, Result.andThen_ok, List.map_toArray, List.map_cons, List.map_nil, hs, hx, hr]
      rcases hown.2 with ⟨_, h1⟩ | ⟨g, cap, cur, rfl, _⟩
      · omega
      · exact hK _ _ (h _ _ V (Or.inr ⟨h0, hown⟩) ⟨hg.os, hg.tape, hg.output, hg.size, fun k hk => hg.block k hk (by simp)⟩)
theorem wpList_add_item {ops : Array Oper} {rest : List Oper} {o : Oper} {a : Act} {w : World} {Q : Exit → Act → World → Prop} {la : Option Addr} {n c base : Nat} {xs : List Ea.Item} (hgd : o.guard = none) (s x : Operand) (ho : o.op = .call { callee := .builtin .append, args := #[s, x], argTypes := #[49, 49] })
    (hs : a.eval s = .slice la n c) (hk : OwnL w base la n c xs) (hbase : base ≤ w.heap.size) (b of : Nat) (it : Ea.Item) (hx : a.eval x = .slice (some ⟨b, of, none⟩) 1 1) (hr : w.rangeAt b of (itemList it)) (hn : n ≤ 600)
    (h : ∀ g' c' row V, RdQ V (some ⟨g', 0, none⟩) (n + 1) (xs ++ [it]) → w.grownBy V row → (∀ k, row = some k → base ≤ k ∧ 0 < n ∧ la = some ⟨k, 0, none⟩) → wpList Tryd.prog ops Q rest (a.put o.dst (.slice (some ⟨g', 0, none⟩) (n + 1) c')) V) : wpList Tryd.prog ops Q (o :: rest) a w :=
  wpList_plain hgd fun _ hK => wp_add_item s x ho hs hk hbase b of it hx hr hn fun g' c' row V h1 h2 h3 => hK _ _ (h g' c' row V (OwnL.rd (base := base) (c := c') (Or.inr ⟨by omega, h1⟩)) h2 (fun k e => ⟨hk.row_low h3 k e, h3 k e⟩))
end Go.Proofs.YtdecclklenaoaaaDoor
