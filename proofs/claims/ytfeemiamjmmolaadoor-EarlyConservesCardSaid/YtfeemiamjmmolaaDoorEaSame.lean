/- What came, and what went or waits, are the same but for marks: plain law of EarlyConserves. -/
import Derived.Test.YtfeemiamjmmolaaDoorEaState
namespace Go.Proofs.YtfeemiamjmmolaaDoor.Ea

def pks (xs : List Ea.Item) : List Ea.Pkt := xs.map (·.p)
theorem pks_len (xs : List Ea.Item) : (pks xs).length = xs.length := by simp [pks]
theorem pks_snoc {l : List Ea.Item} {j : Nat} (hj : j < l.length) : pks (l.take (j + 1)) = pks (l.take j) ++ [(l.getD j default).p] := by
  have e : l.getD j default = l[j] := by rw [List.getD_eq_getElem?_getD, List.getElem?_eq_getElem hj]; rfl
  rw [e, List.take_add_one, List.getElem?_eq_getElem hj]
  unfold pks
  rw [List.map_append]
  rfl
/-- The same packet, or one that is Able and has got a mark. -/
def Alike (a b : Ea.Pkt) : Prop := b = a ∨ (a.able = true ∧ a.marked = false ∧ b = { a with marked := true })
structure Kin (came l : List Ea.Pkt) : Prop where
  len : came.length = l.length
  all : ∀ i, i < came.length → Alike (came.getD i default) (l.getD i default)
theorem Kin.refl (l : List Ea.Pkt) : Kin l l := ⟨rfl, fun _ _ => Or.inl rfl⟩
theorem getD_app {a b : List Ea.Pkt} {i : Nat} (h : i < a.length) : (a ++ b).getD i default = a.getD i default := by
  rw [List.getD_eq_getElem?_getD, List.getD_eq_getElem?_getD, List.getElem?_append_left h]
theorem getD_end (a : List Ea.Pkt) (x : Ea.Pkt) : (a ++ [x]).getD a.length default = x := by
  rw [List.getD_eq_getElem?_getD, List.getElem?_append_right (Nat.le_refl _)]
  simp
theorem Kin.snoc {came l : List Ea.Pkt} (h : Kin came l) {a b : Ea.Pkt} (hab : Alike a b) : Kin (came ++ [a]) (l ++ [b]) := by
  refine ⟨by rw [List.length_append, List.length_append, h.len]; rfl, fun i hi => ?_⟩
  rw [List.length_append, List.length_singleton] at hi
  by_cases e : i < came.length
  · rw [getD_app e, getD_app (by rw [← h.len]; exact e)]
    exact h.all i e
  · obtain rfl : i = came.length := by omega
    rw [getD_end, h.len, getD_end]
    exact hab
theorem Kin.take {came went : List Ea.Pkt} {x : Ea.Item} {xs : List Ea.Item} (h : Kin came (went ++ pks (x :: xs))) : Kin came ((went ++ [x.p]) ++ pks xs) := by
  rw [List.append_assoc]
  exact h
/-- What Put leaves. -/
theorem Kin.put {came went : List Ea.Pkt} {xs : List Ea.Item} (h : Kin came (went ++ pks xs)) {p : Ea.Pkt} {now what : Int} (hw : what = 0 ∨ what = 1 ∨ what = 2) :
    (fated what p.able p.marked = 2 ∧ stays xs p now what = xs ∧ ¬ (what ≠ 2 ∧ p.able = true)) ∨ (fated what p.able p.marked < 2 ∧ 0 ≤ fated what p.able p.marked ∧ (fated what p.able p.marked = 1 → p.able = true) ∧ Kin (came ++ [p]) (went ++ pks (stays xs p now what)) ∧ (stays xs p now what).length = xs.length + 1) := by
  rcases hw with rfl | rfl | rfl
  · refine Or.inr ⟨by simp [fated], by simp [fated], by simp [fated], ?_, by simp [stays]⟩
    have := h.snoc (a := p) (b := p) (Or.inl rfl)
    simpa [stays, pks] using this
  · cases ha : p.able with
    | false => exact Or.inl ⟨by simp [fated], by simp [stays, ha], by simp⟩
    | true =>
      refine Or.inr ⟨?_, ?_, fun _ => rfl, ?_, by simp [stays, ha]⟩
      · cases p.marked <;> simp [fated]
      · cases p.marked <;> simp [fated]
      · have hab : Alike p { p with marked := true } := by
          cases hm : p.marked with
          | true => exact Or.inl (by rw [← hm])
          | false => exact Or.inr ⟨ha, hm, rfl⟩
        have := h.snoc hab
        simpa [stays, pks, ha] using this
  · exact Or.inl ⟨by simp [fated], by simp [stays], by simp⟩
end Go.Proofs.YtfeemiamjmmolaaDoor.Ea
