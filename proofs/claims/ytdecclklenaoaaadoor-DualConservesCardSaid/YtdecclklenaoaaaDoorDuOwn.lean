/- Package dual copies a list of waiting packets: make, and copy, of elements of nine cells. -/
import Derived.Test.YtdecclklenaoaaaDoorEaRow
import Derived.Laws.CopyRow
namespace Go.Proofs.YtdecclklenaoaaaDoor
open Go.RowKit

theorem wpList_copy_list {ops : Array Oper} {rest : List Oper} {o : Oper} {a : Act} {w : World} {Q : Exit → Act → World → Prop} {la : Option Addr} {g n c base : Nat} {xs : List Ea.Item} {old : List Value} (hgd : o.guard = none) (d s : Operand) (ho : o.op = .call { callee := .builtin .copy, args := #[d, s], argTypes := #[49, 49] })
    (hd : a.eval d = .slice (some ⟨g, 0, none⟩) n n) (hs : a.eval s = .slice la n c) (hk : RdQ w la n xs) (hown : w.ownsRow base 51 9 (.slice (some ⟨g, 0, none⟩) n n) n old)
    (h : ∀ V, V.ownsRow base 51 9 (.slice (some ⟨g, 0, none⟩) n n) n (flatQ xs) → w.grownBy V (some g) → wpList Tryd.prog ops Q rest (a.put o.dst (goInt n)) V) : wpList Tryd.prog ops Q (o :: rest) a w := by
  obtain ⟨i0, hi, hz0, hz1, hz2⟩ := info_parts info_item
  have hlen : (flatQ xs).length = n * 9 := by rw [flatQ_length, hk.1]
  rcases hown.2 with ⟨hv, _⟩ | ⟨g', cap, cur, hv, hb, hg, hnc, hcm, hcs, _⟩
  · injection hv with e1
    cases e1
  · injection hv with e1 e2 e3
    injection e1 with e1
    injection e1 with e1
    subst e1 e3
    refine wpList_plain hgd fun K hK => ?_
    rcases Nat.eq_zero_or_pos n with h0 | h0
    · subst h0
      have hxs : flatQ xs = [] := List.eq_nil_of_length_eq_zero (by rw [hlen])
      have hr : (Builtin.copy_ #[49, 49] o.type #[.slice (some ⟨g, 0, none⟩) 0 0, .slice la 0 c]).run Tryd.prog w = .ok (goInt (0 : Nat)) w := by
        cases la <;> simp [Builtin.copy_, run_underlying Tryd.underlying49, Builtin.lenOf, Builtin.firstCells, sizeOf, typeInfo, hi, loadCells, loadCellsFrom, storeCells]
      unfold Oper.wp
      simp [execOp, ho, resolve, invoke, builtin, hd, hs, hr, Result.andThen]
      exact hK _ _ (h w ⟨by rw [hlen], Or.inr ⟨g, 0, cur, rfl, hb, hg, Nat.le_refl _, hcm, hcs, by rw [hxs]; simp⟩⟩ ⟨rfl, rfl, rfl, Nat.le_refl _, fun _ _ _ => rfl⟩)
    · cases la with
      | none => have := (rdQ_nil hk).1; omega
      | some ad =>
        obtain ⟨b, of, rfl, hrg⟩ := hk.flat' h0
        have hl := run_loadCells_list (P := Tryd.prog) w ⟨b, of, none⟩ (flatQ xs) (fun j v hv => by rw [Addr.add_mid]; exact hrg j v hv)
        have hst := run_storeCells_at Tryd.prog g 0 51 (flatQ xs) 0 cur w hg (by simp only [Nat.zero_add]; rw [hlen]; omega) (flatQ_one xs)
        have hr : (Builtin.copy_ #[49, 49] o.type #[.slice (some ⟨g, 0, none⟩) n n, .slice (some ⟨b, of, none⟩) n c]).run Tryd.prog w = .ok (goInt n) (w.setRow g (flatQ xs ++ cur.toList.drop (flatQ xs).length).toArray) := by
          rw [hlen] at hl
          simp only [Nat.zero_add, List.take_zero, List.nil_append] at hst
          simp [Builtin.copy_, run_underlying Tryd.underlying49, Builtin.lenOf, Builtin.firstCells, sizeOf, typeInfo, hi, hz1, hl, hst]
        unfold Oper.wp
        simp [execOp, ho, resolve, invoke, builtin, hd, hs, hr, Result.andThen]
        refine hK _ _ (h _ ⟨hlen, Or.inr ⟨g, n, _, rfl, hb, setRow_heap w g cur _ _ _ hg, Nat.le_refl _, hcm, ?_, ?_⟩⟩ (setRow_grown _ _ _))
        · simp only [List.size_toArray, List.length_append, List.length_drop, Array.length_toList]
          omega
        · rw [List.toList_toArray, ← hlen, List.take_left]
theorem ready_make_list {o : Oper} {a : Act} {w : World} {K : Act → World → Prop} {Q : Exit → Act → World → Prop} {wn : Bool} (hw : wn = true) (hgd : Prop) {n : Nat} (l c : Operand) (ho : o.op = .makeSlice 49 l c) (hl : a.eval l = .int .i64 (n : Int)) (hc : a.eval c = .int .i64 (n : Int)) (hn : n ≤ 600) {g : Nat} (hgz : w.heap.size = g)
    (h : ∀ V old, V.ownsRow g 51 9 (.slice (some ⟨g, 0, none⟩) n n) n old → w.grownBy V none → K (a.put o.dst (.slice (some ⟨g, 0, none⟩) n n)) V) : if wn = true then Oper.wp Tryd.prog o a w K Q else hgd := by
  subst hgz
  rw [if_pos hw]
  obtain ⟨i0, hi, hz0, hz1, hz2⟩ := info_parts info_item
  obtain ⟨V, hr, hown, hg⟩ := run_make_full (P := Tryd.prog) w w.heap.size 49 51 i0 _ 9 Tryd.underlying49 hi hz0 hz1 .i64 .i64 n (by rw [hz2]; omega) (by unfold maxLen; omega) (Nat.le_refl _)
  unfold Oper.wp
  simp [execOp, ho, hl, hc, hr, Result.andThen]
  exact h V _ hown hg
end Go.Proofs.YtdecclklenaoaaaDoor
