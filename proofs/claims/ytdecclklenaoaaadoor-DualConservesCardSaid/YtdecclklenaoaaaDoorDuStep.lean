/- first and second of package dual, over the pair's state. -/
import Derived.Test.YtdecclklenaoaaaDoorDuSecond
namespace Go.Proofs.YtdecclklenaoaaaDoor
open Go.RowKit

/-- A list of the pair: it lies between lo and r, apart from g. -/
def LT (V : World) (lo r g : Nat) (a : Option Addr) (n c : Nat) (xs : List Ea.Item) : Prop :=
  RdT V a n xs ∧ n ≤ c ∧ c ≤ 100000 ∧ ∀ ad, a = some ad → 0 < n → lo ≤ ad.block ∧ ad.block < r ∧ ad.block ≠ g
/-- The state of a pair. -/
def PSt (V : World) (lo r g : Nat) (A B room : Int) (la : Option Addr) (lc : Nat) (now : Int) (xs ys : List Ea.Item) (row : Int) (s : Nat) (drops : List Ea.Pkt) : Prop :=
  ∃ a1 c1 a2 c2 dr, Blk V g (pairList A B room la lc row now s (.slice a1 xs.length c1) (.slice a2 ys.length c2) now dr) ∧ LT V lo r g a1 xs.length c1 xs ∧ LT V lo r g a2 ys.length c2 ys ∧ OwnP V (r + 1) dr drops ∧ lo ≤ g ∧ g < r ∧ r < V.heap.size
/-- What stays: all up to r but g. -/
structure Keep (V V' : World) (r g : Nat) : Prop where
  os : V'.os = V.os
  tape : V'.tape = V.tape
  output : V'.output = V.output
  size : V.heap.size ≤ V'.heap.size
  block : ∀ i, i ≤ r → i ≠ g → V'.heap[i]? = V.heap[i]?
theorem Keep.of {V V' : World} {r g : Nat} (hr : r < V.heap.size) (h : V.grownBy V' (some g)) : Keep V V' r g := ⟨h.os, h.tape, h.output, h.size, fun i hi hne => h.block i (by omega) (fun e => hne (by injection e))⟩
theorem Keep.left {V V' : World} {r g : Nat} {o : Option Nat} (hr : r < V.heap.size) (h : Leaves V V' g o) (ho : ∀ j, o = some j → r + 1 ≤ j) : Keep V V' r g := ⟨h.os, h.tape, h.output, h.size, fun i hi hne => h.block i (by omega) hne (fun e => by have := ho i e.symm; omega)⟩
theorem Keep.blk {V V' : World} {r g a : Nat} {cs : List Value} (k : Keep V V' r g) (ha : a ≤ r) (hne : a ≠ g) (h : Blk V a cs) : Blk V' a cs := by
  obtain ⟨t, h⟩ := h
  exact ⟨t, (k.block a ha hne).trans h⟩
theorem Keep.below {w V V' : World} {r g : Nat} (k : Keep V V' r g) (hb : Below w.heap.size w V) (hg : w.heap.size ≤ g) (hr : g < r) : Below w.heap.size w V' :=
  ⟨k.os.trans hb.os, k.tape.trans hb.tape, k.output.trans hb.output, Nat.le_trans hb.size k.size, fun i hi => (k.block i (by omega) (by omega)).trans (hb.block i hi)⟩
theorem rdT_of {V V' : World} {a : Option Addr} {n : Nat} {xs : List Ea.Item} (h : RdT V a n xs) (hb : ∀ ad, a = some ad → 0 < n → V'.heap[ad.block]? = V.heap[ad.block]?) : RdT V' a n xs := by
  refine ⟨⟨h.1.1, fun i hi => ?_⟩, fun b e hn => ?_⟩
  · obtain ⟨b, o, e, hr⟩ := h.1.2 i hi
    refine ⟨b, o, e, fun j v hv => ?_⟩
    have h1 := hr j v hv
    have h2 := hb _ e (by omega)
    simp only [World.cell?] at h1 ⊢
    rw [← h1]
    simp only at h2
    rw [h2]
  · obtain ⟨cs, fr, h1⟩ := h.2 b e hn
    exact ⟨cs, fr, (hb b e hn).trans h1⟩
theorem LT.of {V V' : World} {lo r g n c : Nat} {a : Option Addr} {xs : List Ea.Item} (h : LT V lo r g a n c xs) (hb : ∀ i, lo ≤ i → i < r → i ≠ g → V'.heap[i]? = V.heap[i]?) : LT V' lo r g a n c xs :=
  ⟨rdT_of h.1 (fun ad e hn => hb _ (h.2.2.2 ad e hn).1 (h.2.2.2 ad e hn).2.1 (h.2.2.2 ad e hn).2.2), h.2⟩
theorem LT.keep {V V' : World} {lo r g n c : Nat} {a : Option Addr} {xs : List Ea.Item} (h : LT V lo r g a n c xs) (k : Keep V V' r g) : LT V' lo r g a n c xs :=
  h.of (fun i _ hi hne => k.block i (by omega) hne)
theorem LT.kept {V V' : World} {lo r g n c : Nat} {a : Option Addr} {xs : List Ea.Item} {row : Option Nat} (h : LT V lo r g a n c xs) (hg : V.grownBy V' row) (hr : r < V.heap.size) (hrow : ∀ k, row = some k → k < lo ∨ k = r ∨ k = g) : LT V' lo r g a n c xs :=
  h.of (fun i h1 h2 h3 => hg.block i (by omega) (fun e => by rcases hrow i e.symm with h | h | h <;> omega))
/-- Behind the first item. -/
theorem LT.tail {V : World} {lo r g n c c' : Nat} {b o : Nat} {a' : Option Addr} {x : Ea.Item} {xs : List Ea.Item} (h : LT V lo r g (some ⟨b, o, none⟩) (xs.length + 1) c (x :: xs)) (hn : n = xs.length) (hc' : n ≤ c') (h5 : c' ≤ 100000) (ha : 0 < n → a' = some ⟨b, o + 9, none⟩) : LT V lo r g a' n c' xs := by
  subst hn
  refine ⟨?_, hc', h5, fun ad e h0 => ?_⟩
  · rcases Nat.eq_zero_or_pos xs.length with h0 | h0
    · exact rdT_nil h0 rfl
    · rw [ha h0]
      exact ⟨h.1.1.drop, fun ad e hn => by injection e with e; subst e; exact h.1.2 ⟨b, o, none⟩ rfl (by omega)⟩
  · rw [ha h0] at e
    injection e with e
    subst e
    exact h.2.2.2 ⟨b, o, none⟩ rfl (by omega)
theorem OwnP.low {V : World} {base : Nat} {dr : Value} {xs : List Ea.Pkt} (h : OwnP V base dr xs) : ∀ j, dr.ownBlock = some j → base ≤ j := fun j hj => (h.lt j hj).1
theorem PSt.kept {V V' : World} {lo r g : Nat} {A B room : Int} {la : Option Addr} {lc : Nat} {now : Int} {xs ys : List Ea.Item} {row0 : Int} {s : Nat} {drops : List Ea.Pkt} {row : Option Nat} (h : PSt V lo r g A B room la lc now xs ys row0 s drops) (hg : V.grownBy V' row) (hrow : ∀ k, row = some k → k < lo ∨ k = r) : PSt V' lo r g A B room la lc now xs ys row0 s drops := by
  obtain ⟨a1, c1, a2, c2, dr, hp, l1, l2, ho, hlo, hgr, hr⟩ := h
  refine ⟨a1, c1, a2, c2, dr, hp.kept hg (fun e => by rcases hrow g e.symm with h | h <;> omega), l1.kept hg hr (fun k e => by rcases hrow k e with h | h <;> simp [h]), l2.kept hg hr (fun k e => by rcases hrow k e with h | h <;> simp [h]), ho.kept hg ?_, hlo, hgr, Nat.lt_of_lt_of_le hr hg.size⟩
  cases hd : dr.ownBlock with
  | none => exact Or.inl rfl
  | some j => exact Or.inr (fun e => by have := ho.low j hd; rcases hrow j e.symm with h | h <;> omega)
theorem LT.at0 {V : World} {lo r g c : Nat} {a : Option Addr} {x : Ea.Item} {xs : List Ea.Item} (h : LT V lo r g a (xs.length + 1) c (x :: xs)) : ∃ b o, a = some ⟨b, o, none⟩ ∧ V.rangeAt b o (itemList x) ∧ b ≠ g := by
  obtain ⟨b, o, e, hr⟩ := h.1.1.2 0 (by omega)
  rw [Nat.zero_mul, Nat.add_zero] at hr
  exact ⟨b, o, e, hr, (h.2.2.2 _ e (by omega)).2.2⟩
/-- The times of a list. -/
def inT (now : Int) (xs : List Ea.Item) : Prop := ∀ i, i < xs.length → 0 ≤ (xs.getD i default).since ∧ (xs.getD i default).since ≤ now
theorem inT.head {now : Int} {x : Ea.Item} {xs : List Ea.Item} (h : inT now (x :: xs)) : 0 ≤ x.since ∧ x.since ≤ now := h 0 (by simp)
theorem inT.tail {now : Int} {x : Ea.Item} {xs : List Ea.Item} (h : inT now (x :: xs)) : inT now xs := fun i hi => h (i + 1) (by simpa using hi)
theorem rdQ_of {V V' : World} {a : Option Addr} {n : Nat} {xs : List Ea.Item} (h : RdT V a n xs) (hb : ∀ ad, a = some ad → 0 < n → V'.heap[ad.block]? = V.heap[ad.block]?) : RdQ V' a n xs := (rdT_of h hb).1
theorem press_says {W : World} {lo r g : Nat} {a2 : Option Addr} {c2 : Nat} {ys : List Ea.Item} (h : LT W lo r g a2 ys.length c2 ys) (hr : r < W.heap.size) (A B room : Int) (la : Option Addr) (lc : Nat) (v0 : Int) (s : Nat) (now : Int) (dr : Value) (b0 : 0 ≤ B) (b1 : B ≤ 1000) (ht : inT now ys) (d2 : now ≤ 10000000) :
    PressSays W g A B room la lc v0 now s (.slice a2 ys.length c2) now dr (Du.press B now ys) := by
  intro V l1 hg hp
  have h2 := (h.kept hg hr (fun k e => by injection e with e; simp [e])).1.1
  rcases Nat.eq_zero_or_pos ys.length with h0 | h0
  · have e0 : Du.press B now ys = 0 := by unfold Du.press; rw [if_pos h0]
    rw [e0]
    rw [h0] at hp
    refine (pressure_none V g A B room la lc v0 now s l1 a2 c2 now dr hp).mono ?_
    rintro e V' ⟨rfl, rfl⟩
    exact ⟨rfl, Below.refl _ _⟩
  · refine (pressure_some V g A B room la lc v0 now s l1 a2 ys.length c2 ys now dr hp h2 h0 b0 b1 (ht 0 h0).1 (ht 0 h0).2 d2).mono ?_
    rintro e V' ⟨rfl, rfl⟩
    exact ⟨rfl, below_drawn (Below.refl _ _)⟩
/-- What first says of the state. -/
def FirstStep (V : World) (lo r g : Nat) (A B room : Int) (la : Option Addr) (lc : Nat) (now : Int) (x : Ea.Item) (xs ys : List Ea.Item) (row : Int) (s : Nat) (drops : List Ea.Pkt) (e : Ending) (V' : World) : Prop :=
  ∃ p r1 s1, e = .returned (.tuple #[pktVal p, .bool true]) ∧ V.grownBy V' (some g) ∧ PSt V' lo r g A B room la lc now xs ys r1 s1 drops ∧ Du.take A B now (x :: xs) ys row s drops = ⟨xs, ys, r1, s1, some p, drops⟩
theorem first_end {V V' : World} {lo r g : Nat} {A B room : Int} {la : Option Addr} {lc : Nat} {now : Int} {x : Ea.Item} {xs ys : List Ea.Item} {drops : List Ea.Pkt} {b o c1 : Nat} {a2 : Option Addr} {c2 : Nat} {dr : Value} {r1 : Int} {s1 : Nat} {p : Ea.Pkt} {e : Ending} (l1 : LT V lo r g (some ⟨b, o, none⟩) (xs.length + 1) c1 (x :: xs)) (l2 : LT V lo r g a2 ys.length c2 ys) (ho : OwnP V (r + 1) dr drops) (hlo : lo ≤ g) (hgr : g < r) (hr : r < V.heap.size)
    (h : FirstSays V g A B room la lc r1 now s1 b o (xs.length + 1) (.slice a2 ys.length c2) now dr p e V') : e = .returned (.tuple #[pktVal p, .bool true]) ∧ V.grownBy V' (some g) ∧ PSt V' lo r g A B room la lc now xs ys r1 s1 drops := by
  obtain ⟨rfl, hg, a', c', hp, ⟨hc1, hc2⟩, ha⟩ := h
  rw [Nat.add_sub_cancel] at hp hc1 ha
  refine ⟨rfl, hg, a', c', a2, c2, dr, hp, (l1.kept hg hr (fun k e => by injection e with e; simp [e])).tail rfl hc1 hc2 ha, l2.kept hg hr (fun k e => by injection e with e; simp [e]), ho.kept hg ?_, hlo, hgr, Nat.lt_of_lt_of_le hr hg.size⟩
  cases hd : dr.ownBlock with
  | none => exact Or.inl rfl
  | some j => exact Or.inr (fun e => by have := ho.low j hd; injection e with e; omega)
theorem first_step (V : World) (lo r g : Nat) (A B room : Int) (la : Option Addr) (lc : Nat) (now : Int) (x : Ea.Item) (xs ys : List Ea.Item) (row : Int) (s : Nat) (drops : List Ea.Pkt) (h : PSt V lo r g A B room la lc now (x :: xs) ys row s drops) (b0 : 0 ≤ B) (b1 : B ≤ 1000) (m0 : 0 ≤ row) (m1 : row ≤ 15) (hm : ys = [] ∨ row < 15) (tx : inT now (x :: xs)) (ty : inT now ys) (d2 : now ≤ 10000000) (ht : ∀ V', V.grownBy V' (some g) → Table V') :
    Calls Tryd.prog 34 #[.pointer (some ⟨g, 0, none⟩)] V (FirstStep V lo r g A B room la lc now x xs ys row s drops) := by
  obtain ⟨a1, c1, a2, c2, dr, hp, l1, l2, ho, hlo, hgr, hr⟩ := h
  rw [List.length_cons] at hp l1
  obtain ⟨b, o, rfl, hx, hbg⟩ := l1.at0
  have hc := l1.2.1
  have hc5 := l1.2.2.1
  have pr := fun v0 => press_says l2 hr A B room la lc v0 s now dr b0 b1 ty d2
  have pb : 0 ≤ Du.press B now ys ∧ Du.press B now ys ≤ 1000000 := Du.press_bd b0 (fun h0 => (ty 0 h0).2)
  cases ys with
  | nil =>
    by_cases hA : A ≤ now - x.since
    · refine (first_mark_last V g A B room la lc row now s b o (xs.length + 1) c1 a2 0 c2 now dr x hp hx hbg (by omega) hc hc5 rfl m0 m1 tx.head.1 tx.head.2 d2 hA).mono ?_
      intro e V' hf
      obtain ⟨e1, e2, e3⟩ := first_end l1 l2 ho hlo hgr hr hf
      exact ⟨_, _, _, e1, e2, e3, by unfold Du.take; rw [if_pos hA]⟩
    · refine (first_draw_last V g A B room la lc row now s b o (xs.length + 1) c1 a2 0 c2 now dr x hp hx hbg (by omega) hc hc5 rfl m0 m1 tx.head.1 tx.head.2 d2 (by omega) ht _ pb.1 pb.2 (pr 0) _ rfl).mono ?_
      intro e V' hf
      obtain ⟨e1, e2, e3⟩ := first_end l1 l2 ho hlo hgr hr hf
      exact ⟨_, _, _, e1, e2, e3, by unfold Du.take; rw [if_neg hA]; simp [Du.press]⟩
  | cons y ys =>
    have hrow : row < 15 := hm.elim (fun h => by cases h) (fun h => h)
    have hne : (((y :: ys).length : Int) == 0) = false := by simp; omega
    by_cases hA : A ≤ now - x.since
    · refine (first_mark_more V g A B room la lc row now s b o (xs.length + 1) c1 a2 (y :: ys).length c2 now dr x hp hx hbg (by omega) hc hc5 hne m0 m1 tx.head.1 tx.head.2 d2 hA).mono ?_
      intro e V' hf
      obtain ⟨e1, e2, e3⟩ := first_end l1 l2 ho hlo hgr hr hf
      exact ⟨_, _, _, e1, e2, e3, by unfold Du.take; rw [if_neg (by omega), if_pos hA]⟩
    · refine (first_draw_more V g A B room la lc row now s b o (xs.length + 1) c1 a2 (y :: ys).length c2 now dr x hp hx hbg (by omega) hc hc5 hne m0 m1 tx.head.1 tx.head.2 d2 (by omega) ht _ pb.1 pb.2 (pr (row + 1)) _ rfl).mono ?_
      intro e V' hf
      obtain ⟨e1, e2, e3⟩ := first_end l1 l2 ho hlo hgr hr hf
      exact ⟨_, _, _, e1, e2, e3, by unfold Du.take; rw [if_neg (by omega), if_neg hA]; simp⟩
/-- What second says of the state. -/
def SecondStep (V : World) (lo r g : Nat) (A B room : Int) (la : Option Addr) (lc : Nat) (now : Int) (xs : List Ea.Item) (y : Ea.Item) (ys : List Ea.Item) (row : Int) (s : Nat) (drops : List Ea.Pkt) (e : Ending) (V' : World) : Prop :=
  Keep V V' r g ∧ ((e = .returned (.tuple #[pktVal y.p, .bool true]) ∧ PSt V' lo r g A B room la lc now xs ys 0 (Rand.nextSeed s) drops ∧ Du.take A B now xs (y :: ys) row s drops = ⟨xs, ys, 0, Rand.nextSeed s, some y.p, drops⟩) ∨
    (e = .returned (.tuple #[pktVal default, .bool false]) ∧ PSt V' lo r g A B room la lc now xs ys 0 (Rand.nextSeed s) (drops ++ [y.p]) ∧ Du.take A B now xs (y :: ys) row s drops = Du.take A B now xs ys 0 (Rand.nextSeed s) (drops ++ [y.p])))
theorem second_step (V : World) (lo r g : Nat) (A B room : Int) (la : Option Addr) (lc : Nat) (now : Int) (xs : List Ea.Item) (y : Ea.Item) (ys : List Ea.Item) (row : Int) (s : Nat) (drops : List Ea.Pkt) (h : PSt V lo r g A B room la lc now xs (y :: ys) row s drops) (b0 : 0 ≤ B) (b1 : B ≤ 1000) (hm : xs = [] ∨ 15 ≤ row) (ty : inT now (y :: ys)) (d2 : now ≤ 10000000) (hd : drops.length ≤ 600) (ht : ∀ V', V.grownBy V' (some g) → Table V') :
    Calls Tryd.prog 35 #[.pointer (some ⟨g, 0, none⟩)] V (SecondStep V lo r g A B room la lc now xs y ys row s drops) := by
  obtain ⟨a1, c1, a2, c2, dr, hp, l1, l2, ho, hlo, hgr, hr⟩ := h
  have pr := fun v0 => press_says l2 hr A B room la lc v0 s now dr b0 b1 ty d2
  have pb : 0 ≤ Du.press B now (y :: ys) ∧ Du.press B now (y :: ys) ≤ 1000000 := Du.press_bd b0 (fun h0 => (ty 0 h0).2)
  rw [List.length_cons] at hp l2
  simp only [List.length_cons] at pr
  obtain ⟨b, o, rfl, hx, hbg⟩ := l2.at0
  have hc := l2.2.1
  have hc5 := l2.2.2.1
  have hod : ∀ j, dr.ownBlock = some j → r + 1 ≤ j := fun j hj => ho.low j hj
  have hnd : dr.ownBlock ≠ some g := fun e => by have := hod g e; omega
  by_cases hb : Du.rnd s < Du.press B now (y :: ys) * Du.press B now (y :: ys) / 1000000
  · refine (second_drop V g A B room la lc row now s b o (ys.length + 1) c2 (.slice a1 xs.length c1) now dr y hp hx hbg (by omega) hc hc5 ht _ pb.1 pb.2 (pr 0) (decide_eq_true hb) (r + 1) drops ho (by omega) hnd hd).mono ?_
    rintro e V' ⟨rfl, hL, a', c', dr', hp', ⟨hc1, hc2⟩, ha, ho'⟩
    have k := Keep.left hr hL hod
    rw [Nat.add_sub_cancel] at hp' hc1 ha
    refine ⟨k, Or.inr ⟨rfl, ⟨a1, c1, a', c', dr', hp', l1.keep k, (l2.keep k).tail rfl hc1 hc2 ha, ho', hlo, hgr, Nat.lt_of_lt_of_le hr k.size⟩, ?_⟩⟩
    rcases xs with _ | ⟨x, xs⟩
    · rw [Du.take]
      rw [if_pos hb]
    · have h15 : 15 ≤ row := hm.elim (fun h => by cases h) (fun h => h)
      rw [Du.take]
      rw [if_pos h15, if_pos hb]
  · refine (second_take V g A B room la lc row now s b o (ys.length + 1) c2 (.slice a1 xs.length c1) now dr y hp hx hbg (by omega) hc hc5 ht _ pb.1 pb.2 (pr 0) (decide_eq_false hb)).mono ?_
    rintro e V' ⟨rfl, hg, a', c', hp', ⟨hc1, hc2⟩, ha⟩
    have k := Keep.of hr hg
    rw [Nat.add_sub_cancel] at hp' hc1 ha
    refine ⟨k, Or.inl ⟨rfl, ⟨a1, c1, a', c', dr, hp', l1.keep k, (l2.keep k).tail rfl hc1 hc2 ha, ho.kept hg ?_, hlo, hgr, Nat.lt_of_lt_of_le hr k.size⟩, ?_⟩⟩
    · cases hd : dr.ownBlock with
      | none => exact Or.inl rfl
      | some j => exact Or.inr (fun e => by have := hod j hd; injection e with e; omega)
    · rcases xs with _ | ⟨x, xs⟩
      · rw [Du.take]
        rw [if_neg hb]
      · have h15 : 15 ≤ row := hm.elim (fun h => by cases h) (fun h => h)
        rw [Du.take]
        rw [if_pos h15, if_neg hb]
end Go.Proofs.YtdecclklenaoaaaDoor
