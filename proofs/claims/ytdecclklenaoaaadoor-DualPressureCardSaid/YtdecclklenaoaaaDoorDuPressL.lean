/- The pressure, over plain numbers. -/
import Derived.Test.YtdecclklenaoaaaDoorDuLaws
namespace Go.Proofs.YtdecclklenaoaaaDoor.Du
open Ea

theorem sq_low {k : Int} (h0 : 0 ≤ k) (h1 : k < 1000) : k * k / 1000000 = 0 := by
  have h2 : k * k ≤ 999 * k := Int.mul_le_mul_of_nonneg_right (by omega) h0
  have h3 : 0 ≤ k * k := Int.mul_nonneg h0 h0
  omega
theorem take_low {A B now row : Int} {xs ys : List Item} {s : Nat} (k0 : 0 ≤ press B now ys) (k1 : press B now ys < 1000) : (take A B now xs ys row s []).drops = [] := by
  have hn : ¬ rnd s < press B now ys * press B now ys / 1000000 := by rw [sq_low k0 k1]; have := rnd_nonneg s; omega
  rcases xs with _ | ⟨x, xs⟩ <;> rcases ys with _ | ⟨y, ys⟩
  · rw [take]
  · rw [take, if_neg hn]
  · rw [take]
    split <;> rfl
  · rw [take]
    split
    · first | rfl | rw [if_neg hn]
    · split <;> rfl
theorem take_prefix {A B now : Int} : ∀ (ys xs : List Item) (row : Int) (s : Nat) (drops : List Pkt), ∃ l, (take A B now xs ys row s drops).drops = drops ++ l
  | [], [], row, s, drops => ⟨[], by rw [take, List.append_nil]⟩
  | [], x :: xs, row, s, drops => ⟨[], by rw [take, List.append_nil]; split <;> rfl⟩
  | y :: ys, [], row, s, drops => by
    rw [take]
    split
    · obtain ⟨l, h⟩ := take_prefix ys [] 0 (Rand.nextSeed s) (drops ++ [y.p])
      exact ⟨y.p :: l, by rw [h, List.append_assoc]; rfl⟩
    · exact ⟨[], by rw [List.append_nil]⟩
  | y :: ys, x :: xs, row, s, drops => by
    rw [take]
    split
    · split
      · obtain ⟨l, h⟩ := take_prefix ys (x :: xs) 0 (Rand.nextSeed s) (drops ++ [y.p])
        exact ⟨y.p :: l, by rw [h, List.append_assoc]; rfl⟩
      · exact ⟨[], by rw [List.append_nil]⟩
    · split
      · exact ⟨[], by rw [List.append_nil]⟩
      · exact ⟨[], by rw [List.append_nil]⟩
theorem take_full {A B now row : Int} {xs ys : List Item} {s : Nat} {y : Item} (k1 : press B now (y :: ys) = 1000000) (h : xs = [] ∨ 15 ≤ row) : ∃ l, (take A B now xs (y :: ys) row s []).drops = y.p :: l := by
  have hn : rnd s < press B now (y :: ys) * press B now (y :: ys) / 1000000 := by rw [k1]; have := rnd_lt s; omega
  rcases xs with _ | ⟨x, xs⟩
  · rw [take, if_pos hn]
    exact take_prefix ys [] 0 _ [y.p]
  · have h15 : 15 ≤ row := h.elim (fun h => by cases h) (fun h => h)
    rw [take, if_pos h15, if_pos hn]
    exact take_prefix ys (x :: xs) 0 _ [y.p]
theorem take_push {A B now row : Int} {xs ys : List Item} {s : Nat} {x y : Item} (k1 : press B now (y :: ys) = 1000000) (h : row < 15) (hx : x.p.able = true) : ∃ xs' r s' p, take A B now (x :: xs) (y :: ys) row s [] = ⟨xs', y :: ys, r, s', some p, []⟩ ∧ p.able = true ∧ p.marked = true := by
  have hn : rnd s < 2 * press B now (y :: ys) := by rw [k1]; have := rnd_lt s; omega
  rw [take, if_neg (by omega)]
  by_cases hA : A ≤ now - x.since
  · rw [if_pos hA]
    exact ⟨_, _, _, _, rfl, hx, rfl⟩
  · rw [if_neg hA, if_pos hn]
    exact ⟨_, _, _, _, rfl, hx, rfl⟩
end Go.Proofs.YtdecclklenaoaaaDoor.Du
