/- What the statements on package dual ask of Take, over plain numbers. -/
import Derived.Test.YtdecclklenaoaaaDoorDuPlain
namespace Go.Proofs.YtdecclklenaoaaaDoor.Du
open Ea

theorem rnd_nonneg (s : Nat) : 0 ≤ rnd s := Int.emod_nonneg _ (by decide)
theorem rnd_lt (s : Nat) : rnd s < 1000000 := Int.emod_lt_of_pos _ (by decide)
theorem allAble.head {x : Item} {xs : List Item} {b : Bool} (h : allAble (x :: xs) b) : x.p.able = b := h 0 (by simp)
theorem allAble.tail {x : Item} {xs : List Item} {b : Bool} (h : allAble (x :: xs) b) : allAble xs b := fun i hi => h (i + 1) (by simpa using hi)
/-- A packet that is Able, and has waited for the threshold, is marked when it is taken. -/
theorem take_mark {A B now : Int} : ∀ (ys xs : List Item) (row : Int) (s : Nat) (drops : List Pkt), allAble ys false → ∀ p, (take A B now xs ys row s drops).got = some p → p.able = true → ∃ x xs', xs = x :: xs' ∧ (A ≤ now - x.since → p.marked = true)
  | [], [], row, s, drops, _, p, h, _ => by rw [take] at h; cases h
  | [], x :: xs, row, s, drops, _, p, h, _ => by
    rw [take] at h
    refine ⟨x, xs, rfl, fun ha => ?_⟩
    rw [if_pos ha] at h
    injection h with h
    subst h
    rfl
  | y :: ys, [], row, s, drops, hy, p, h, hp => by
    rw [take] at h
    split at h
    · exact take_mark ys [] 0 _ _ hy.tail p h hp
    · injection h with h
      subst h
      rw [hy.head] at hp
      cases hp
  | y :: ys, x :: xs, row, s, drops, hy, p, h, hp => by
    rw [take] at h
    split at h
    · split at h
      · exact take_mark ys (x :: xs) 0 _ _ hy.tail p h hp
      · injection h with h
        subst h
        rw [hy.head] at hp
        cases hp
    · refine ⟨x, xs, rfl, fun ha => ?_⟩
      rw [if_pos ha] at h
      injection h with h
      subst h
      rfl
theorem press_zero (now : Int) (ys : List Item) : press 0 now ys = 0 := by
  unfold press
  split
  · rfl
  · rw [Int.zero_mul]
    rfl
/-- With the coupling 0: nothing is dropped, and who is taken. -/
theorem take_free {A now row : Int} {xs ys : List Item} {s : Nat} (hx : allAble xs true) (hy : allAble ys false) :
    ∃ xs' ys' r s' got, take A 0 now xs ys row s [] = ⟨xs', ys', r, s', got, []⟩ ∧ (got = none ↔ xs = [] ∧ ys = []) ∧ ∀ p, got = some p → (p.able = false → ∃ y yt, ys = y :: yt ∧ p = y.p) ∧ (p.able = true → ∃ x xt, xs = x :: xt ∧ p.marked = (x.p.marked || decide (A ≤ now - x.since))) := by
  have first : ∀ (x : Item) (q : Pkt), x.p.able = true → q = (if A ≤ now - x.since then { x.p with marked := true } else x.p) → q.able = true ∧ q.marked = (x.p.marked || decide (A ≤ now - x.since)) := fun x q ha hq => by
    subst hq
    by_cases h : A ≤ now - x.since
    · rw [if_pos h, decide_eq_true h]
      exact ⟨ha, by simp⟩
    · rw [if_neg h, decide_eq_false h]
      exact ⟨ha, by simp⟩
  rcases xs with _ | ⟨x, xs⟩ <;> rcases ys with _ | ⟨y, ys⟩
  · exact ⟨_, _, _, _, _, by rw [take], by simp, fun p h => by cases h⟩
  · rw [take, if_neg (by rw [press_zero]; have := rnd_nonneg s; omega)]
    refine ⟨_, _, _, _, _, rfl, by simp, fun p h => ?_⟩
    injection h with h
    subst h
    exact ⟨fun _ => ⟨y, ys, rfl, rfl⟩, fun ha => by rw [hy.head] at ha; cases ha⟩
  · have hn : ¬ rnd s < 0 := by have := rnd_nonneg s; omega
    rw [take]
    by_cases h : A ≤ now - x.since
    · rw [if_pos h]
      refine ⟨_, _, _, _, _, rfl, by simp, fun p hp => ?_⟩
      injection hp with hp
      have := first x p hx.head (by rw [if_pos h]; exact hp.symm)
      exact ⟨fun hf => (by rw [this.1] at hf; cases hf), fun _ => ⟨x, xs, rfl, this.2⟩⟩
    · rw [if_neg h, if_neg hn]
      refine ⟨_, _, _, _, _, rfl, by simp, fun p hp => ?_⟩
      injection hp with hp
      have := first x p hx.head (by rw [if_neg h]; exact hp.symm)
      exact ⟨fun hf => (by rw [this.1] at hf; cases hf), fun _ => ⟨x, xs, rfl, this.2⟩⟩
  · rw [take, press_zero]
    have hn : ¬ rnd s < 0 := by have := rnd_nonneg s; omega
    by_cases h15 : 15 ≤ row
    · rw [if_pos h15, if_neg (by simpa using hn)]
      refine ⟨_, _, _, _, _, rfl, by simp, fun p h => ?_⟩
      injection h with h
      subst h
      exact ⟨fun _ => ⟨y, ys, rfl, rfl⟩, fun ha => by rw [hy.head] at ha; cases ha⟩
    · rw [if_neg h15]
      by_cases h : A ≤ now - x.since
      · rw [if_pos h]
        refine ⟨_, _, _, _, _, rfl, by simp, fun p hp => ?_⟩
        injection hp with hp
        have := first x p hx.head (by rw [if_pos h]; exact hp.symm)
        exact ⟨fun hf => (by rw [this.1] at hf; cases hf), fun _ => ⟨x, xs, rfl, this.2⟩⟩
      · rw [if_neg h, if_neg (by simpa using hn)]
        refine ⟨_, _, _, _, _, rfl, by simp, fun p hp => ?_⟩
        injection hp with hp
        have := first x p hx.head (by rw [if_neg h]; exact hp.symm)
        exact ⟨fun hf => (by rw [this.1] at hf; cases hf), fun _ => ⟨x, xs, rfl, this.2⟩⟩
end Go.Proofs.YtdecclklenaoaaaDoor.Du
