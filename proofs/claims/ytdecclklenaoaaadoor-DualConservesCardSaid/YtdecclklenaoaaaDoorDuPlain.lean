/- Take of package dual over plain numbers: what it leaves is valid. -/
import Derived.Test.YtdecclklenaoaaaDoorDuMath
namespace Go.Proofs.YtdecclklenaoaaaDoor.Du
open Ea

theorem Ok.move {A B room v0 v7 now r : Int} {xs ys xs' ys' : List Item} (h : Ok A B room v0 v7 xs ys) (h0 : v7 ≤ now) (h1 : now ≤ 10000000) (r0 : 0 ≤ r) (r1 : r ≤ 15) (hx : xs' = xs ∨ xs' = xs.drop 1) (hy : ys' = ys ∨ ys' = ys.drop 1) : Ok A B room r now xs' ys' := by
  have t0 := h.t0
  have hl := h.len
  refine ⟨h.a0, h.a1, h.b0, h.b1, h.r0, h.r1, r0, r1, by omega, h1, ?_, ?_, ?_, ?_, ?_⟩
  · have e1 : xs'.length ≤ xs.length := by rcases hx with rfl | rfl <;> simp
    have e2 : ys'.length ≤ ys.length := by rcases hy with rfl | rfl <;> simp
    omega
  · rcases hx with rfl | rfl
    · exact h.lx.later h0
    · exact h.lx.drop.later h0
  · rcases hy with rfl | rfl
    · exact h.ly.later h0
    · exact h.ly.drop.later h0
  · rcases hx with rfl | rfl
    · exact h.ax
    · exact h.ax.drop
  · rcases hy with rfl | rfl
    · exact h.ay
    · exact h.ay.drop
theorem take_ok {A B room now : Int} : ∀ (ys xs : List Item) (row v7 : Int) (s : Nat) (drops : List Pkt), Ok A B room row v7 xs ys → v7 ≤ now → now ≤ 10000000 → Ok A B room (take A B now xs ys row s drops).row now (take A B now xs ys row s drops).xs (take A B now xs ys row s drops).ys
  | [], [], row, v7, s, drops, h, h0, h1 => by rw [take]; exact h.move h0 h1 (by first | omega | (simp only; omega)) (by first | omega | (simp only; omega)) (Or.inl rfl) (Or.inl rfl)
  | [], x :: xs, row, v7, s, drops, h, h0, h1 => by
    rw [take]
    split
    · exact h.move h0 h1 (by first | omega | (simp only; omega)) (by first | omega | (simp only; omega)) (Or.inr rfl) (Or.inl rfl)
    · exact h.move h0 h1 (by first | omega | (simp only; omega)) (by first | omega | (simp only; omega)) (Or.inr rfl) (Or.inl rfl)
  | y :: ys, [], row, v7, s, drops, h, h0, h1 => by
    rw [take]
    split
    · exact take_ok ys [] 0 now _ _ (h.move h0 h1 (by first | omega | (simp only; omega)) (by first | omega | (simp only; omega)) (Or.inl rfl) (Or.inr rfl)) (Int.le_refl _) h1
    · exact h.move h0 h1 (by first | omega | (simp only; omega)) (by first | omega | (simp only; omega)) (Or.inl rfl) (Or.inr rfl)
  | y :: ys, x :: xs, row, v7, s, drops, h, h0, h1 => by
    rw [take]
    have m0 := h.m0
    split
    · split
      · exact take_ok ys (x :: xs) 0 now _ _ (h.move h0 h1 (by first | omega | (simp only; omega)) (by first | omega | (simp only; omega)) (Or.inl rfl) (Or.inr rfl)) (Int.le_refl _) h1
      · exact h.move h0 h1 (by first | omega | (simp only; omega)) (by first | omega | (simp only; omega)) (Or.inl rfl) (Or.inr rfl)
    · split
      · exact h.move h0 h1 (by first | omega | (simp only; omega)) (by first | omega | (simp only; omega)) (Or.inr rfl) (Or.inl rfl)
      · exact h.move h0 h1 (by first | omega | (simp only; omega)) (by first | omega | (simp only; omega)) (Or.inr rfl) (Or.inl rfl)
theorem ok_empty {A B room : Int} (a0 : 0 ≤ A) (a1 : A ≤ 1000000) (b0 : 0 ≤ B) (b1 : B ≤ 1000) (r0 : 1 ≤ room) (r1 : room ≤ 500) : Ok A B room 0 0 [] [] :=
  ⟨a0, a1, b0, b1, r0, r1, by omega, by omega, by omega, by omega, by simp; omega, listOk_nil _, listOk_nil _, fun i h => absurd h (by simp), fun i h => absurd h (by simp)⟩
/-- A packet that comes, and waits. -/
theorem Ok.came {A B room v0 v7 now : Int} {xs ys : List Item} (h : Ok A B room v0 v7 xs ys) (h0 : v7 ≤ now) (h1 : now ≤ 10000000) {p : Pkt} (hp : p.ok) (hf : (xs.length : Int) + ys.length < room) : (p.able = true → Ok A B room v0 now (xs ++ [⟨p, now⟩]) ys) ∧ (p.able = false → Ok A B room v0 now xs (ys ++ [⟨p, now⟩])) := by
  have t0 := h.t0
  constructor
  · intro ha
    exact ⟨h.a0, h.a1, h.b0, h.b1, h.r0, h.r1, h.m0, h.m1, by omega, h1, by rw [List.length_append]; simp; omega, h.lx.snoc h0 (by omega) h1 hp, h.ly.later h0, h.ax.snoc ha, h.ay⟩
  · intro ha
    exact ⟨h.a0, h.a1, h.b0, h.b1, h.r0, h.r1, h.m0, h.m1, by omega, h1, by rw [List.length_append]; simp; omega, h.lx.later h0, h.ly.snoc h0 (by omega) h1 hp, h.ax, h.ay.snoc ha⟩
end Go.Proofs.YtdecclklenaoaaaDoor.Du
