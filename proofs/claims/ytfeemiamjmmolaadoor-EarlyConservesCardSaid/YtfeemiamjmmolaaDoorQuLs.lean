/- Lists of lists of waiting packets, read; what a test says. -/
import Derived.Test.YtfeemiamjmmolaaDoorQuSmall
namespace Go.Proofs.YtfeemiamjmmolaaDoor
open Go.RowKit

/-- The lists of a queue can be read. -/
def RdLs (w : World) (la : Option Addr) (ln : Nat) : Prop := ∀ i, i < ln → ∃ (ad : Addr) (a : Option Addr) (n c : Nat) (xs : List Ea.Item), la = some ad ∧ w.cell? (ad.add i) = some (.slice a n c) ∧ RdQ w a n xs ∧ (n : Int) ≤ 9223372036854775807
theorem RdLs.below {w V : World} {la : Option Addr} {ln : Nat} (h : RdLs w la ln) (hb : Below w.heap.size w V) : RdLs V la ln := fun i hi => by
  obtain ⟨ad, a, n, c, xs, e, hc, hr, hn⟩ := h i hi
  exact ⟨ad, a, n, c, xs, e, below_cell_of hb hc, hr.below hb, hn⟩
theorem range_cell {w : World} {b : Nat} {cs : List Value} (h : w.rangeAt b 0 cs) (j : Nat) {v : Value} (hj : cs[j]? = some v) : w.cell? ⟨b, j, none⟩ = some v := by have := h j v hj; rwa [Nat.zero_add] at this
theorem itemList_inj {x y : Ea.Item} (h : itemList x = itemList y) : x = y := by
  obtain ⟨⟨x0, x1, x2, x3, x4, x5, x6, x7⟩, x8⟩ := x
  obtain ⟨⟨y0, y1, y2, y3, y4, y5, y6, y7⟩, y8⟩ := y
  simp only [itemList, List.cons.injEq, Value.int.injEq, Value.bool.injEq, true_and, and_true] at h
  obtain ⟨rfl, rfl, rfl, rfl, rfl, rfl, rfl, rfl, rfl⟩ := h
  rfl
theorem rdQ_unique {w : World} {a : Option Addr} {n : Nat} {xs ys : List Ea.Item} (hx : RdQ w a n xs) (hy : RdQ w a n ys) : xs = ys := by
  apply List.ext_getElem (by rw [hx.1, hy.1])
  intro i h1 h2
  have hi : i < n := by rw [← hx.1]; exact h1
  obtain ⟨b, o, e, hr⟩ := hx.2 i hi
  obtain ⟨b', o', e', hr'⟩ := hy.2 i hi
  rw [e] at e'
  injection e' with e'
  injection e' with e1 e2
  subst e1 e2
  rw [List.getD_eq_getElem?_getD, List.getElem?_eq_getElem h1] at hr
  rw [List.getD_eq_getElem?_getD, List.getElem?_eq_getElem h2] at hr'
  refine itemList_inj (List.ext_getElem? fun j => ?_)
  simp only [Option.getD_some] at hr hr'
  by_cases hj : j < 9
  · have g1 : (itemList xs[i])[j]? = some ((itemList xs[i])[j]) := List.getElem?_eq_getElem (show j < (itemList xs[i]).length from hj)
    have g2 : (itemList ys[i])[j]? = some ((itemList ys[i])[j]) := List.getElem?_eq_getElem (show j < (itemList ys[i]).length from hj)
    rw [g1, g2]
    exact (hr j _ g1).symm.trans (hr' j _ g2)
  · rw [List.getElem?_eq_none (show (itemList xs[i]).length ≤ j by simp only [List.length_cons, List.length_nil]; omega), List.getElem?_eq_none (show (itemList ys[i]).length ≤ j by simp only [List.length_cons, List.length_nil]; omega)]
theorem ad_add_zero (ad : Addr) : ad.add 0 = ad := by
  obtain ⟨b, o, s⟩ := ad
  unfold Addr.add
  cases s <;> simp

def Says (w : World) (P : Prop) (e : Ending) (w' : World) : Prop := (∃ b : Bool, e = .returned (.bool b) ∧ (b = true → P)) ∧ Below w.heap.size w w'
theorem says_no {w V : World} {P : Prop} (h : Below w.heap.size w V) : Says w P (.returned (.bool false)) V := ⟨⟨false, rfl, fun h => by cases h⟩, h⟩
end Go.Proofs.YtfeemiamjmmolaaDoor
