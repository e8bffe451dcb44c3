/- Packages early and dual over plain numbers: packets, lists, the average, what happens to a packet. -/
import Derived.Test.YtfeemiamjmmolaaDoorRandMath
namespace Go.Proofs.YtfeemiamjmmolaaDoor.Ea

/-- A packet. -/
structure Pkt where
  flow : Int
  sub : Int
  number : Int
  data : Int
  size : Int
  sent : Int
  able : Bool
  marked : Bool
instance : Inhabited Pkt := ⟨⟨0, 0, 0, 0, 0, 0, false, false⟩⟩
/-- A packet that waits, since some time. -/
structure Item where
  p : Pkt
  since : Int
instance : Inhabited Item := ⟨⟨default, 0⟩⟩
structure Pkt.ok (p : Pkt) : Prop where
  f0 : 0 ≤ p.flow
  f1 : p.flow ≤ 7
  s0 : 0 ≤ p.sub
  s1 : p.sub ≤ 3
  n0 : 0 ≤ p.number
  n1 : p.number ≤ 1000000000
  d0 : 0 ≤ p.data
  d1 : p.data ≤ 1000000000
  z0 : 1 ≤ p.size
  z1 : p.size ≤ 10000
  t0 : 0 ≤ p.sent
  t1 : p.sent ≤ 10000000
/-- A packet of a list is right, and not before the one ahead of it. -/
structure good (xs : List Item) (last : Int) (i : Nat) : Prop where
  ok : (xs.getD i default).p.ok
  low : 0 ≤ (xs.getD i default).since
  t1 : (xs.getD i default).since ≤ 10000000
  high : (xs.getD i default).since ≤ last
  up : 0 < i → (xs.getD (i - 1) default).since ≤ (xs.getD i default).since
/-- A list is in order, up to a time. -/
def listOk (xs : List Item) (last : Int) : Prop := ∀ i, i < xs.length → good xs last i
theorem listOk_nil (last : Int) : listOk [] last := fun _ h => absurd h (by simp)
theorem listOk.later {xs : List Item} {last last' : Int} (h : listOk xs last) (hl : last ≤ last') : listOk xs last' := fun i hi => ⟨(h i hi).ok, (h i hi).low, (h i hi).t1, Int.le_trans (h i hi).high hl, (h i hi).up⟩
theorem getD_drop (xs : List Item) (i : Nat) : (xs.drop 1).getD i default = xs.getD (i + 1) default := by
  rw [List.getD_eq_getElem?_getD, List.getD_eq_getElem?_getD, List.getElem?_drop, Nat.add_comm]
theorem listOk.drop {xs : List Item} {last : Int} (h : listOk xs last) : listOk (xs.drop 1) last := by
  intro i hi
  have g := h (i + 1) (by rw [List.length_drop] at hi; omega)
  refine ⟨by rw [getD_drop]; exact g.ok, by rw [getD_drop]; exact g.low, by rw [getD_drop]; exact g.t1, by rw [getD_drop]; exact g.high, fun h0 => ?_⟩
  rw [getD_drop, getD_drop]
  have := g.up (by omega)
  rwa [show i + 1 - 1 = i - 1 + 1 by omega] at this
theorem getD_left {xs ys : List Item} {i : Nat} (h : i < xs.length) : (xs ++ ys).getD i default = xs.getD i default := by
  rw [List.getD_eq_getElem?_getD, List.getD_eq_getElem?_getD, List.getElem?_append_left h]
theorem getD_last (xs : List Item) (x : Item) : (xs ++ [x]).getD xs.length default = x := by
  rw [List.getD_eq_getElem?_getD, List.getElem?_append_right (Nat.le_refl _)]
  simp
theorem listOk.snoc {xs : List Item} {last now : Int} (h : listOk xs last) (hl : last ≤ now) (h0 : 0 ≤ now) (h1 : now ≤ 10000000) {p : Pkt} (hp : p.ok) : listOk (xs ++ [⟨p, now⟩]) now := by
  intro i hi
  rw [List.length_append, List.length_singleton] at hi
  by_cases hx : i < xs.length
  · have g := h i hx
    refine ⟨by rw [getD_left hx]; exact g.ok, by rw [getD_left hx]; exact g.low, by rw [getD_left hx]; exact g.t1, by rw [getD_left hx]; exact Int.le_trans g.high hl, fun hp => ?_⟩
    rw [getD_left hx, getD_left (by omega)]
    exact g.up hp
  · have e : i = xs.length := by omega
    subst e
    refine ⟨by rw [getD_last]; exact hp, by rw [getD_last]; exact h0, by rw [getD_last]; exact h1, by rw [getD_last]; exact Int.le_refl _, fun hp => ?_⟩
    rw [getD_last, getD_left (by omega)]
    exact Int.le_trans (h _ (by omega)).high hl

/-- The average after an update; d is a power of two. -/
def avg (v len d : Int) : Int := v + (1024 * len - v) / d
theorem avg_one (v len : Int) : avg v len 1 = 1024 * len := by unfold avg; rw [Int.ediv_one]; omega
theorem div_bd {x d : Int} (hd : 1 ≤ d) (hx : 0 ≤ x) : 0 ≤ x / d ∧ x / d ≤ x := ⟨Int.ediv_nonneg hx (by omega), Int.ediv_le_self d hx⟩
theorem div_bd_neg {x d : Int} (hd : 1 ≤ d) (hx : x ≤ 0) : x ≤ x / d ∧ x / d ≤ 0 := by
  refine ⟨(Int.le_ediv_iff_mul_le (by omega)).2 ?_, ?_⟩
  · have : (-x) * 1 ≤ (-x) * d := Int.mul_le_mul_of_nonneg_left hd (by omega)
    rw [Int.neg_mul, Int.neg_mul] at this
    omega
  · have := Int.ediv_le_ediv (show 0 < d by omega) hx
    rwa [Int.zero_ediv] at this
theorem avg_bd {v len d : Int} (hd : 1 ≤ d) : (v ≤ avg v len d ∧ avg v len d ≤ 1024 * len) ∨ (1024 * len ≤ avg v len d ∧ avg v len d ≤ v) := by
  unfold avg
  by_cases h : 0 ≤ 1024 * len - v
  · obtain ⟨a, b⟩ := div_bd hd h
    left; omega
  · obtain ⟨a, b⟩ := div_bd_neg (x := 1024 * len - v) hd (by omega)
    right; omega
theorem avg_mono {v w len d : Int} (hd : 1 ≤ d) (h : v ≤ w) : avg v len d ≤ avg w len d := by
  unfold avg
  have e : (1024 * len - v) / d ≤ (1024 * len - w + (w - v) * d) / d := by
    refine Int.ediv_le_ediv (by omega) ?_
    have : (w - v) * 1 ≤ (w - v) * d := Int.mul_le_mul_of_nonneg_left hd (by omega)
    omega
  rw [Int.add_mul_ediv_right _ _ (by omega)] at e
  omega

/-- Whether a packet is accepted (0), caught (1) or dropped (2), and the next seed. -/
def verdict (a b len room v : Int) (seed : Nat) : Int × Nat :=
  if len = room then (2, seed) else
  if v - 1024 * a < 0 then (0, seed) else
  if 1024 * (b - a) ≤ v - 1024 * a then (1, seed) else
  if (Rand.num seed : Int) / 4294967296 % (1024 * (b - a)) < v - 1024 * a then (1, Rand.nextSeed seed) else (0, Rand.nextSeed seed)
/-- What a test sees of it. -/
def fated (what : Int) (able marked : Bool) : Int :=
  if what = 2 then 2 else if what = 1 then (if able = false then 2 else if marked = true then 0 else 1) else 0
end Go.Proofs.YtfeemiamjmmolaaDoor.Ea
