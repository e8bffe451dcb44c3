/- Package dual over plain numbers: valid queues, the pressure, what is served. -/
import Derived.Test.YtdecclklenaoaaaDoorEaMath
namespace Go.Proofs.YtdecclklenaoaaaDoor.Du
open Ea

/-- All packets of a list are Able, or none is. -/
def allAble (xs : List Item) (b : Bool) : Prop := ∀ i, i < xs.length → (xs.getD i default).p.able = b
/-- What makes a queue valid, beyond its form. -/
structure Ok (A B room v0 v7 : Int) (xs ys : List Item) : Prop where
  a0 : 0 ≤ A
  a1 : A ≤ 1000000
  b0 : 0 ≤ B
  b1 : B ≤ 1000
  r0 : 1 ≤ room
  r1 : room ≤ 500
  m0 : 0 ≤ v0
  m1 : v0 ≤ 15
  t0 : 0 ≤ v7
  t1 : v7 ≤ 10000000
  len : (xs.length : Int) + ys.length ≤ room
  lx : listOk xs v7
  ly : listOk ys v7
  ax : allAble xs true
  ay : allAble ys false
theorem allAble.drop {xs : List Item} {b : Bool} (h : allAble xs b) : allAble (xs.drop 1) b := fun i hi => by
  rw [getD_drop]
  exact h (i + 1) (by rw [List.length_drop] at hi; omega)
theorem allAble.snoc {xs : List Item} {b : Bool} (h : allAble xs b) {x : Item} (hx : x.p.able = b) : allAble (xs ++ [x]) b := fun i hi => by
  rw [List.length_append, List.length_singleton] at hi
  by_cases e : i < xs.length
  · rw [getD_left e]
    exact h i e
  · have : i = xs.length := by omega
    subst this
    rw [getD_last]
    exact hx
theorem Ok.short {A B room v0 v7 : Int} {xs ys : List Item} (h : Ok A B room v0 v7 xs ys) : xs.length ≤ 500 ∧ ys.length ≤ 500 := by
  have := h.len
  have := h.r1
  omega
/-- The pressure. -/
def press (B now : Int) (ys : List Item) : Int := if ys.length = 0 then 0 else if 1000000 < B * (now - (ys.getD 0 default).since) then 1000000 else B * (now - (ys.getD 0 default).since)
def rnd (s : Nat) : Int := (Rand.num s : Int) / 4294967296 % 1000000
theorem mul_bd {B d : Int} (b0 : 0 ≤ B) (b1 : B ≤ 1000) (d0 : 0 ≤ d) (d1 : d ≤ 10000000) : 0 ≤ B * d ∧ B * d ≤ 10000000000 := by
  refine ⟨Int.mul_nonneg b0 d0, ?_⟩
  have h1 : B * d ≤ 1000 * d := Int.mul_le_mul_of_nonneg_right b1 d0
  omega
theorem press_bd {B now : Int} {ys : List Item} (b0 : 0 ≤ B) (h : 0 < ys.length → (ys.getD 0 default).since ≤ now) : 0 ≤ press B now ys ∧ press B now ys ≤ 1000000 := by
  unfold press
  split
  · omega
  · rename_i h0
    have h1 := h (by omega)
    have h2 : 0 ≤ B * (now - (ys.getD 0 default).since) := Int.mul_nonneg b0 (by omega)
    split <;> omega
/-- What a call of Take leaves: the lists, how often the first was served, the seed, what was taken and what was dropped. -/
structure Out where
  xs : List Item
  ys : List Item
  row : Int
  seed : Nat
  got : Option Pkt
  drops : List Pkt
/-- The second list is served until a packet of it is taken, or the first list is in turn. -/
def take (A B now : Int) : (xs ys : List Item) → (row : Int) → (s : Nat) → (drops : List Pkt) → Out
  | [], [], _, s, drops => ⟨[], [], 0, s, none, drops⟩
  | x :: xs, [], _, s, drops =>
    if A ≤ now - x.since then ⟨xs, [], 0, s, some { x.p with marked := true }, drops⟩
    else ⟨xs, [], 0, Rand.nextSeed s, some (if rnd s < 0 then { x.p with marked := true } else x.p), drops⟩
  | [], y :: ys, _, s, drops =>
    if rnd s < press B now (y :: ys) * press B now (y :: ys) / 1000000 then take A B now [] ys 0 (Rand.nextSeed s) (drops ++ [y.p])
    else ⟨[], ys, 0, Rand.nextSeed s, some y.p, drops⟩
  | x :: xs, y :: ys, row, s, drops =>
    if 15 ≤ row then
      if rnd s < press B now (y :: ys) * press B now (y :: ys) / 1000000 then take A B now (x :: xs) ys 0 (Rand.nextSeed s) (drops ++ [y.p])
      else ⟨x :: xs, ys, 0, Rand.nextSeed s, some y.p, drops⟩
    else if A ≤ now - x.since then ⟨xs, y :: ys, row + 1, s, some { x.p with marked := true }, drops⟩
    else ⟨xs, y :: ys, row + 1, Rand.nextSeed s, some (if rnd s < 2 * press B now (y :: ys) then { x.p with marked := true } else x.p), drops⟩
end Go.Proofs.YtdecclklenaoaaaDoor.Du
