/- What a call of Take does to the row, over plain numbers. -/
import Derived.Test.YtdecclklenaoaaaDoorDuLaws
namespace Go.Proofs.YtdecclklenaoaaaDoor.Du
open Ea

/-- What a call of Take is: the first list is served, or the second, or none. -/
inductive Cls (n1 n2 : Nat) (v0 : Int) (i a : Bool) (m k : Nat) (row : Int) : Prop
  | first : 0 < n1 → 0 < n2 → v0 < 15 → i = true → a = true → m = 0 → k = n2 → row = v0 + 1 → Cls n1 n2 v0 i a m k row
  | after : 0 < n1 → 0 < n2 → i = true → a = true → 0 < m → k < n2 → (k = 0 ∨ 1 ≤ row) → Cls n1 n2 v0 i a m k row
  | other : 0 < n2 → i = true → a = false → k < n2 → Cls n1 n2 v0 i a m k row
  | none : 0 < n2 → i = false → k < n2 → Cls n1 n2 v0 i a m k row
  | only : 0 < n1 → n2 = 0 → i = true → a = true → k = 0 → Cls n1 n2 v0 i a m k row
  | empty : n1 = 0 → n2 = 0 → i = false → k = 0 → Cls n1 n2 v0 i a m k row
theorem take_more {A B now : Int} : ∀ (ys xs : List Item) (row : Int) (s : Nat) (drops : List Pkt), 0 ≤ row → allAble ys false → (take A B now xs ys row s drops).ys.length ≤ ys.length ∧ drops.length ≤ (take A B now xs ys row s drops).drops.length ∧ ∀ p, (take A B now xs ys row s drops).got = some p → p.able = true → xs ≠ [] ∧ ((take A B now xs ys row s drops).ys.length = 0 ∨ 1 ≤ (take A B now xs ys row s drops).row)
  | [], [], row, s, drops, _, _ => by rw [take]; exact ⟨Nat.le_refl _, Nat.le_refl _, fun p h => by cases h⟩
  | [], x :: xs, row, s, drops, _, _ => by
    rw [take]
    split <;> exact ⟨Nat.le_refl _, Nat.le_refl _, fun p _ _ => ⟨by simp, Or.inl rfl⟩⟩
  | y :: ys, [], row, s, drops, _, hy => by
    rw [take]
    split
    · obtain ⟨h1, h2, h3⟩ := take_more (A := A) (B := B) (now := now) ys [] 0 (Rand.nextSeed s) (drops ++ [y.p]) (by omega) hy.tail
      exact ⟨by simp only [List.length_cons]; omega, by simp only [List.length_append, List.length_cons, List.length_nil] at h2; omega, h3⟩
    · refine ⟨by simp, Nat.le_refl _, fun p h hp => ?_⟩
      injection h with h
      subst h
      rw [hy.head] at hp
      cases hp
  | y :: ys, x :: xs, row, s, drops, h0, hy => by
    rw [take]
    split
    · split
      · obtain ⟨h1, h2, h3⟩ := take_more (A := A) (B := B) (now := now) ys (x :: xs) 0 (Rand.nextSeed s) (drops ++ [y.p]) (by omega) hy.tail
        exact ⟨by simp only [List.length_cons]; omega, by simp only [List.length_append, List.length_cons, List.length_nil] at h2; omega, h3⟩
      · refine ⟨by simp, Nat.le_refl _, fun p h hp => ?_⟩
        injection h with h
        subst h
        rw [hy.head] at hp
        cases hp
    · split <;> exact ⟨Nat.le_refl _, Nat.le_refl _, fun p _ _ => ⟨by simp, Or.inr (by simp only; omega)⟩⟩
theorem take_cls {A B now row : Int} {xs ys : List Item} {s : Nat} (h0 : 0 ≤ row) (hx : allAble xs true) (hy : allAble ys false) {xs' ys' : List Item} {r' : Int} {s' : Nat} {got : Option Pkt} {drops : List Pkt} (ho : take A B now xs ys row s [] = ⟨xs', ys', r', s', got, drops⟩) :
    Cls xs.length ys.length row got.isSome (got.getD default).able drops.length ys'.length r' := by
  have second : ∀ (y : Item) (yt : List Item) (xs : List Item), y.p.able = false → allAble yt false → (if rnd s < press B now (y :: yt) * press B now (y :: yt) / 1000000 then take A B now xs yt 0 (Rand.nextSeed s) ([] ++ [y.p]) else ⟨xs, yt, 0, Rand.nextSeed s, some y.p, []⟩) = ⟨xs', ys', r', s', got, drops⟩ → Cls xs.length (yt.length + 1) row got.isSome (got.getD default).able drops.length ys'.length r' := fun y yt xs ha hyt h => by
    split at h
    · have h3 := take_more (A := A) (B := B) (now := now) yt xs 0 (Rand.nextSeed s) ([] ++ [y.p]) (by omega) hyt
      rw [h] at h3
      simp only at h3
      obtain ⟨h31, h32, h33⟩ := h3
      cases got with
      | none => exact .none (by omega) rfl (by omega)
      | some p =>
        cases hp : p.able with
        | false => exact .other (by omega) rfl hp (by omega)
        | true =>
          obtain ⟨e1, e2⟩ := h33 p rfl hp
          refine .after ?_ (by omega) rfl hp (by simp at h32; omega) (by omega) e2
          cases xs with
          | nil => exact absurd rfl e1
          | cons x xt => simp
    · injection h with _ e2 _ _ e5 _
      subst e5 e2
      exact .other (by omega) rfl ha (by omega)
  rcases xs with _ | ⟨x, xs⟩ <;> rcases ys with _ | ⟨y, ys⟩
  · rw [take] at ho
    injection ho with _ e2 _ _ e5 _
    subst e2 e5
    exact .empty rfl rfl rfl rfl
  · rw [take] at ho
    exact second y ys [] hy.head hy.tail ho
  · rw [take] at ho
    have hb : ∀ q : Pkt, q.able = true → ∀ s1, (⟨xs, [], 0, s1, some q, []⟩ : Out) = ⟨xs', ys', r', s', got, drops⟩ → Cls (x :: xs).length ([] : List Item).length row got.isSome (got.getD default).able drops.length ys'.length r' := fun q hq s1 h => by
      injection h with _ e2 _ _ e5 _
      subst e2 e5
      exact .only (by simp) rfl rfl hq rfl
    split at ho
    · exact hb { x.p with marked := true } hx.head _ ho
    · exact hb _ (by split <;> exact hx.head) _ ho
  · rw [take] at ho
    have hb : row < 15 → ∀ q : Pkt, q.able = true → ∀ s1, (⟨xs, y :: ys, row + 1, s1, some q, []⟩ : Out) = ⟨xs', ys', r', s', got, drops⟩ → Cls (x :: xs).length (y :: ys).length row got.isSome (got.getD default).able drops.length ys'.length r' := fun h15 q hq s1 h => by
      injection h with _ e2 e3 _ e5 e6
      subst e2 e3 e5 e6
      exact .first (by simp) (by simp) h15 rfl hq rfl rfl rfl
    split at ho
    · exact second y ys (x :: xs) hy.head hy.tail ho
    · rename_i h15
      split at ho
      · exact hb (by omega) { x.p with marked := true } hx.head _ ho
      · exact hb (by omega) _ (by split <;> exact hx.head) _ ho
end Go.Proofs.YtdecclklenaoaaaDoor.Du
