/- Memory of packages early and dual: blocks known whole, rows of waiting packets. -/
import Derived.Test.YtfeemiamjmmolaaDoorProg
import Derived.Test.YtfeemiamjmmolaaDoorMem
import Derived.Test.YtfeemiamjmmolaaDoorEaMath
import Derived.Laws.OwnMore
import Derived.OwnWalk
import Derived.Deep.MidRow
import Derived.Deep.WholeRow
import Derived.Lib.Hide
namespace Go.Proofs.YtfeemiamjmmolaaDoor
open Go.RowKit

/-- Block g holds these cells, and may be written. -/
def Blk (W : World) (g : Nat) (cs : List Value) : Prop := ∃ t, W.heap[g]? = some (.cells cs.toArray t (0, 0))
theorem Blk.lt {W : World} {g : Nat} {cs : List Value} (h : Blk W g cs) : g < W.heap.size := by
  obtain ⟨t, h⟩ := h
  exact (Array.getElem?_eq_some_iff.1 h).1
theorem Blk.cell {W : World} {g : Nat} {cs : List Value} (h : Blk W g cs) (j : Nat) {v : Value} (hj : cs[j]? = some v) : W.cell? ⟨g, j, none⟩ = some v := by
  obtain ⟨t, h⟩ := h
  simp [World.cell?, h, hj]
theorem Blk.frozen {W : World} {g : Nat} {cs : List Value} (h : Blk W g cs) (a : Addr) (ha : a.block = g) : W.frozen? a = false := by
  obtain ⟨t, h⟩ := h
  subst ha
  simp [World.frozen?, h]
theorem Blk.new (W : World) (cs : Array Value) (t : TypeId) : Blk (W.alloc (.cells cs t)) W.heap.size cs.toList := ⟨t, by rw [heap_alloc_last]⟩
theorem Blk.kept {W V : World} {g : Nat} {cs : List Value} {row : Option Nat} (h : Blk W g cs) (hg : W.grownBy V row) (hne : some g ≠ row) : Blk V g cs := by
  obtain ⟨t, e⟩ := h
  exact ⟨t, (hg.block g (Blk.lt ⟨t, e⟩) hne).trans e⟩
theorem Blk.below {W V : World} {g : Nat} {cs : List Value} (h : Blk W g cs) (hb : Below W.heap.size W V) : Blk V g cs := by
  obtain ⟨t, e⟩ := h
  exact ⟨t, (hb.block g (Blk.lt ⟨t, e⟩)).trans e⟩
theorem Blk.set {W : World} {g : Nat} {cs : List Value} (h : Blk W g cs) (j : Nat) (u : Value) : Blk (W.setCell ⟨g, j, none⟩ u) g (cs.set j u) := by
  obtain ⟨t, e⟩ := h
  refine ⟨t, ?_⟩
  have hl := (Array.getElem?_eq_some_iff.1 e).1
  show (W.heap.modify g _)[g]? = _
  rw [Array.getElem?_modify, if_pos rfl, e]
  simp
theorem Blk.range {W : World} {g : Nat} {cs : List Value} (h : Blk W g cs) : W.rangeAt g 0 cs := fun j v hj => by rw [Nat.zero_add]; exact h.cell j hj
theorem Blk.there {W : World} {g : Nat} {cs : List Value} (h : Blk W g cs) (n : Nat) (hn : n ≤ cs.length) : W.there g 0 n := fun j hj =>
  ⟨by rw [Nat.zero_add, h.cell j (List.getElem?_eq_getElem (by omega))]; rfl, h.frozen _ rfl⟩
theorem grown_set (W : World) (a : Addr) (u : Value) : W.grownBy (W.setCell a u) (some a.block) :=
  ⟨rfl, rfl, rfl, by simp [World.setCell], fun k _ hk => Below.heap_setCell _ _ _ k (fun e => hk (by rw [e]))⟩
theorem grown_drewN (W : World) (n : Nat) (row : Option Nat) : W.grownBy (W.drewN n) row := ⟨rfl, rfl, rfl, Nat.le_refl _, fun _ _ _ => rfl⟩
theorem grown_drew (W : World) (row : Option Nat) : W.grownBy W.drew row := ⟨rfl, rfl, rfl, Nat.le_refl _, fun _ _ _ => rfl⟩
theorem grown_below {W V : World} (h : Below W.heap.size W V) (row : Option Nat) : W.grownBy V row := ⟨h.os, h.tape, h.output, h.size, fun k hk _ => h.block k hk⟩
theorem grown_trans {a b c : World} {row : Option Nat} (h : a.grownBy b row) (k : b.grownBy c row) : a.grownBy c row :=
  ⟨k.os.trans h.os, k.tape.trans h.tape, k.output.trans h.output, Nat.le_trans h.size k.size, fun i hi hr => (k.block i (Nat.lt_of_lt_of_le hi h.size) hr).trans (h.block i hi hr)⟩

/-- The cells of a packet. -/
abbrev pktList (p : Ea.Pkt) : List Value := [.int .i64 p.flow, .int .i64 p.sub, .int .i64 p.number, .int .i64 p.data, .int .i64 p.size, .int .i64 p.sent, .bool p.able, .bool p.marked]
abbrev pktVal (p : Ea.Pkt) : Value := .agg #[.int .i64 p.flow, .int .i64 p.sub, .int .i64 p.number, .int .i64 p.data, .int .i64 p.size, .int .i64 p.sent, .bool p.able, .bool p.marked]
/-- The cells of a packet that waits. -/
abbrev itemList (x : Ea.Item) : List Value := [.int .i64 x.p.flow, .int .i64 x.p.sub, .int .i64 x.p.number, .int .i64 x.p.data, .int .i64 x.p.size, .int .i64 x.p.sent, .bool x.p.able, .bool x.p.marked, .int .i64 x.since]
abbrev itemVal (x : Ea.Item) : Value := .agg #[.int .i64 x.p.flow, .int .i64 x.p.sub, .int .i64 x.p.number, .int .i64 x.p.data, .int .i64 x.p.size, .int .i64 x.p.sent, .bool x.p.able, .bool x.p.marked, .int .i64 x.since]
theorem rangeAt_below {w w1 : World} {b o : Nat} {cs : List Value} (h : w.rangeAt b o cs) (hb : Below w.heap.size w w1) : w1.rangeAt b o cs := fun j v hv => below_cell_of hb (h j v hv)
theorem rangeAt_kept {w w1 : World} {b o : Nat} {cs : List Value} {row : Option Nat} (h : w.rangeAt b o cs) (hg : w.grownBy w1 row) (hne : some b ≠ row) : w1.rangeAt b o cs := fun j v hv => hg.cell (h j v hv) hne
/-- The slice value with this address and length reads as these packets. -/
def RdQ (w : World) (a : Option Addr) (n : Nat) (xs : List Ea.Item) : Prop :=
  xs.length = n ∧ ∀ i, i < n → ∃ b o, a = some ⟨b, o, none⟩ ∧ w.rangeAt b (o + i * 9) (itemList (xs.getD i default))
theorem RdQ.below {w w1 : World} {a : Option Addr} {n : Nat} {xs : List Ea.Item} (h : RdQ w a n xs) (hb : Below w.heap.size w w1) : RdQ w1 a n xs :=
  ⟨h.1, fun i hi => by
    obtain ⟨b, o, e, hr⟩ := h.2 i hi
    exact ⟨b, o, e, rangeAt_below hr hb⟩⟩
theorem RdQ.kept {w w1 : World} {a : Option Addr} {n : Nat} {xs : List Ea.Item} {row : Option Nat} (h : RdQ w a n xs) (hg : w.grownBy w1 row) (hne : ∀ ad, a = some ad → some ad.block ≠ row) : RdQ w1 a n xs :=
  ⟨h.1, fun i hi => by
    obtain ⟨b, o, e, hr⟩ := h.2 i hi
    exact ⟨b, o, e, rangeAt_kept hr hg (hne _ e)⟩⟩
/-- All but the first. -/
theorem RdQ.drop {w : World} {b o n : Nat} {xs : List Ea.Item} (h : RdQ w (some ⟨b, o, none⟩) (n + 1) xs) : RdQ w (some ⟨b, o + 9, none⟩) n (xs.drop 1) := by
  refine ⟨by rw [List.length_drop, h.1]; omega, fun i hi => ⟨b, o + 9, rfl, ?_⟩⟩
  obtain ⟨b', o', e, hr⟩ := h.2 (i + 1) (by omega)
  injection e with e
  injection e with e1 e2
  subst e1 e2
  have e3 : (xs.drop 1).getD i default = xs.getD (i + 1) default := by
    rw [List.getD_eq_getElem?_getD, List.getD_eq_getElem?_getD, List.getElem?_drop, Nat.add_comm]
  rw [e3, show o + 9 + i * 9 = o + (i + 1) * 9 by omega]
  exact hr
def cellQ (x : Ea.Item) (c : Nat) : Value := (itemList x).getD c undef
def flatQ (xs : List Ea.Item) : List Value := xs.flatMap itemList
theorem flatQ_cons (x : Ea.Item) (xs : List Ea.Item) : flatQ (x :: xs) = itemList x ++ flatQ xs := rfl
theorem flatQ_snoc (xs : List Ea.Item) (x : Ea.Item) : flatQ (xs ++ [x]) = flatQ xs ++ itemList x := by
  unfold flatQ
  rw [List.flatMap_append]
  simp
theorem flatQ_length (xs : List Ea.Item) : (flatQ xs).length = xs.length * 9 := by
  induction xs with
  | nil => rfl
  | cons x xs ih => rw [flatQ_cons, List.length_append, ih, List.length_cons]; simp only [List.length_cons, List.length_nil]; omega
theorem flatQ_get : ∀ (xs : List Ea.Item) (i c : Nat), i < xs.length → c < 9 → (flatQ xs)[i * 9 + c]? = (itemList (xs.getD i default))[c]?
  | [], i, c, h, _ => absurd h (by simp)
  | x :: xs, 0, c, _, hc => by
    rw [flatQ_cons, Nat.zero_mul, Nat.zero_add, List.getElem?_append_left (by simpa using hc)]
    rfl
  | x :: xs, i + 1, c, h, hc => by
    rw [flatQ_cons, List.getElem?_append_right (by simp only [List.length_cons, List.length_nil]; omega)]
    have e : (i + 1) * 9 + c - (itemList x).length = i * 9 + c := by simp only [List.length_cons, List.length_nil]; omega
    rw [e, flatQ_get xs i c (by simpa using h) hc]
    rfl
theorem itemList_one (x : Ea.Item) : ∀ u, u ∈ itemList x → u.oneCell' = true := by
  intro u hu
  simp only [itemList, List.mem_cons, List.not_mem_nil, or_false] at hu
  rcases hu with rfl | rfl | rfl | rfl | rfl | rfl | rfl | rfl | rfl <;> rfl
theorem flatQ_one (xs : List Ea.Item) : ∀ u, u ∈ flatQ xs → u.oneCell' = true := by
  intro u hu
  unfold flatQ at hu
  rw [List.mem_flatMap] at hu
  obtain ⟨x, _, hx⟩ := hu
  exact itemList_one x u hx
/-- A row of the call's own, read. -/
theorem own_rdQ {w : World} {base e g n cap : Nat} {xs : List Ea.Item} (h : w.ownsRow base e 9 (.slice (some ⟨g, 0, none⟩) n cap) n (flatQ xs)) : RdQ w (some ⟨g, 0, none⟩) n xs := by
  have hl : xs.length = n := by have := h.1; rw [flatQ_length] at this; omega
  refine ⟨hl, fun i hi => ⟨g, 0, rfl, fun j v hv => ?_⟩⟩
  have hj : j < 9 := (List.getElem?_eq_some_iff.1 hv).1
  rw [Nat.zero_add, h.cellAt _ (by omega), flatQ_get _ _ _ (by omega) hj, hv]
/-- A slice that is read, read flat. -/
theorem RdQ.flat {w : World} {b o n : Nat} {xs : List Ea.Item} (h : RdQ w (some ⟨b, o, none⟩) n xs) : w.rangeAt b o (flatQ xs) := by
  intro j v hv
  have hj : j < xs.length * 9 := by have := (List.getElem?_eq_some_iff.1 hv).1; rwa [flatQ_length] at this
  have hd : j / 9 < xs.length := by omega
  have hm : j % 9 < 9 := Nat.mod_lt _ (by omega)
  have ej : j / 9 * 9 + j % 9 = j := by omega
  rw [← ej, flatQ_get _ _ _ hd hm] at hv
  obtain ⟨b', o', e, hr⟩ := h.2 (j / 9) (by have := h.1; omega)
  injection e with e
  injection e with e1 e2
  subst e1 e2
  have := hr _ _ hv
  rwa [Nat.add_assoc, ej] at this
end Go.Proofs.YtfeemiamjmmolaaDoor
