/- Put and Take of package early, at any valid queue: what they return, in one contract each. -/
import Derived.Test.YtfeemiamjmmolaaDoorEaPutP
import Derived.Test.YtfeemiamjmmolaaDoorEaPutD
import Derived.Test.YtfeemiamjmmolaaDoorEaPutM
import Derived.Test.YtfeemiamjmmolaaDoorEaTake
namespace Go.Proofs.YtfeemiamjmmolaaDoor
open Go.RowKit

/-- What waits behind a packet that came, and what was dropped. -/
def Ea.stays (xs : List Ea.Item) (p : Ea.Pkt) (now what : Int) : List Ea.Item :=
  if what = 2 then xs else if what = 1 then (if p.able = false then xs else xs ++ [⟨{ p with marked := true }, now⟩]) else xs ++ [⟨p, now⟩]
def Ea.drops (p : Ea.Pkt) (what : Int) : Option Ea.Pkt := if what = 2 then some p else if what = 1 then (if p.able = false then some p else none) else none
def PutGives (w : World) (A B C room v1 now : Int) (s1 : Nat) (xs : List Ea.Item) (o : Option Ea.Pkt) (e : Ending) (V : World) : Prop :=
  ∃ ad out, e = .returned (.tuple #[.agg #[.int .i64 2, .int .i64 A, .int .i64 B, .int .i64 C, .int .i64 room, .slice (some ad) 1 1, .int .i64 v1, .int .i64 0, .int .i64 0, .int .i64 0, .int .i64 0, .int .i64 0, .int .i64 0, .int .i64 now, .int .u64 (s1 : Int)], out, .int .i64 0]) ∧ Below w.heap.size w V ∧ HoldsL V ad xs ∧ OutOk V out o
def PutGivesT (w : World) (A B C room v1 now : Int) (s1 : Nat) (xs : List Ea.Item) (o : Option Ea.Pkt) (e : Ending) (V : World) : Prop :=
  ∃ g out, e = .returned (.tuple #[.agg #[.int .i64 2, .int .i64 A, .int .i64 B, .int .i64 C, .int .i64 room, .slice (some ⟨g, 0, none⟩) 1 1, .int .i64 v1, .int .i64 0, .int .i64 0, .int .i64 0, .int .i64 0, .int .i64 0, .int .i64 0, .int .i64 now, .int .u64 (s1 : Int)], out, .int .i64 0]) ∧ Below w.heap.size w V ∧ HoldsT V ⟨g, 0, none⟩ xs ∧ OutOk V out o
theorem PutGivesT.gives {w V : World} {A B C room v1 now : Int} {s1 : Nat} {xs : List Ea.Item} {o : Option Ea.Pkt} {e : Ending} (h : PutGivesT w A B C room v1 now s1 xs o e V) : PutGives w A B C room v1 now s1 xs o e V := by
  obtain ⟨g, out, h1, h2, h3, h4⟩ := h
  exact ⟨_, out, h1, h2, h3.holds, h4⟩
theorem PutSays.gives {w V : World} {A B C room v1 now : Int} {s1 n : Nat} {xs : List Ea.Item} {o : Option Ea.Pkt} {e : Ending} (h : PutSays w A B C room v1 now s1 n xs o e V) : PutGivesT w A B C room v1 now s1 xs o e V := by
  obtain ⟨g1, a, c, out, h1, h2, h3, h4, h5⟩ := h
  have hn := h4.1.1
  subst hn
  exact ⟨_, out, h1, h2, ⟨a, c, h3, h4⟩, h5⟩
theorem QOk.short {A B C room v0 v7 : Int} {xs : List Ea.Item} (h : QOk A B C room v0 v7 xs) : xs.length ≤ 500 := by
  have := h.len
  have := h.r1
  omega
theorem verdict_three (a b len room v : Int) (s : Nat) : (Ea.verdict a b len room v s).1 = 2 ∨ (Ea.verdict a b len room v s).1 = 1 ∨ (Ea.verdict a b len room v s).1 = 0 := by
  unfold Ea.verdict
  split
  · exact Or.inl rfl
  · split
    · exact Or.inr (Or.inr rfl)
    · split
      · exact Or.inr (Or.inl rfl)
      · split
        · exact Or.inr (Or.inl rfl)
        · exact Or.inr (Or.inr rfl)
theorem put_anyT (A B C room : Int) (ad : Addr) (lc : Nat) (v0 v7 : Int) (s : Nat) (xs : List Ea.Item) (w : World) (hl : HoldsL w ad xs) (hq : QOk A B C room v0 v7 xs) (ht : Table w) (p : Ea.Pkt) (hp : p.ok) (now : Int) (h0 : v7 ≤ now) (h1 : now ≤ 10000000) (what : Int) (s1 : Nat) (hv : Ea.verdict A B xs.length room (Ea.avg v0 xs.length (2 ^ C.toNat)) s = (what, s1)) :
    Calls Tryd.prog 13 #[.agg #[.int .i64 2, .int .i64 A, .int .i64 B, .int .i64 C, .int .i64 room, .slice (some ad) 1 lc, .int .i64 v0, .int .i64 0, .int .i64 0, .int .i64 0, .int .i64 0, .int .i64 0, .int .i64 0, .int .i64 v7, .int .u64 (s : Int)], pktVal p, .int .i64 now] w
      (PutGivesT w A B C room (Ea.avg v0 xs.length (2 ^ C.toNat)) now s1 (Ea.stays xs p now what) (Ea.drops p what)) := by
  obtain ⟨a, c, hc, hr⟩ := hl
  have hs := hq.short
  have hn : ((xs.length : Nat) : Int) ≤ 9223372036854775807 := by omega
  have h3 := verdict_three A B xs.length room (Ea.avg v0 xs.length (2 ^ C.toNat)) s
  rw [hv] at h3
  rcases h3 with h3 | h3 | h3
  · obtain rfl : what = 2 := h3
    exact (put_full A B C room ad lc v0 v7 s a xs.length c xs w hc hr hn hq ht p hp now h0 h1 s1 hv).mono fun _ _ h => h.gives
  · obtain rfl : what = 1 := h3
    cases hab : p.able with
    | false =>
      have e1 : Ea.stays xs p now 1 = xs := by unfold Ea.stays; rw [if_neg (by omega), if_pos rfl, if_pos hab]
      have e2 : Ea.drops p 1 = some p := by unfold Ea.drops; rw [if_neg (by omega), if_pos rfl, if_pos hab]
      rw [e1, e2]
      exact (put_drop A B C room ad lc v0 v7 s a xs.length c xs w hc hr hn hq ht p hp now h0 h1 s1 hab hv).mono fun _ _ h => h.gives
    | true =>
      have e1 : Ea.stays xs p now 1 = xs ++ [⟨{ p with marked := true }, now⟩] := by unfold Ea.stays; rw [if_neg (by omega), if_pos rfl, if_neg (by rw [hab]; simp)]
      have e2 : Ea.drops p 1 = none := by unfold Ea.drops; rw [if_neg (by omega), if_pos rfl, if_neg (by rw [hab]; simp)]
      rw [e1, e2]
      exact (put_mark A B C room ad lc v0 v7 s a xs.length c xs w hc hr hn hq ht p hp now h0 h1 s1 hab hv).mono fun _ _ h => h.gives
  · obtain rfl : what = 0 := h3
    exact (put_plain A B C room ad lc v0 v7 s a xs.length c xs w hc hr hn hq ht p hp now h0 h1 s1 hv).mono fun _ _ h => h.gives
theorem put_any (A B C room : Int) (ad : Addr) (lc : Nat) (v0 v7 : Int) (s : Nat) (xs : List Ea.Item) (w : World) (hl : HoldsL w ad xs) (hq : QOk A B C room v0 v7 xs) (ht : Table w) (p : Ea.Pkt) (hp : p.ok) (now : Int) (h0 : v7 ≤ now) (h1 : now ≤ 10000000) (what : Int) (s1 : Nat) (hv : Ea.verdict A B xs.length room (Ea.avg v0 xs.length (2 ^ C.toNat)) s = (what, s1)) :
    Calls Tryd.prog 13 #[.agg #[.int .i64 2, .int .i64 A, .int .i64 B, .int .i64 C, .int .i64 room, .slice (some ad) 1 lc, .int .i64 v0, .int .i64 0, .int .i64 0, .int .i64 0, .int .i64 0, .int .i64 0, .int .i64 0, .int .i64 v7, .int .u64 (s : Int)], pktVal p, .int .i64 now] w
      (PutGives w A B C room (Ea.avg v0 xs.length (2 ^ C.toNat)) now s1 (Ea.stays xs p now what) (Ea.drops p what)) :=
  (put_anyT A B C room ad lc v0 v7 s xs w hl hq ht p hp now h0 h1 what s1 hv).mono fun _ _ h => h.gives
def TakeGives (w : World) (A B C room v0 now seed : Int) (xs : List Ea.Item) (e : Ending) (V : World) : Prop :=
  ∃ ad, e = .returned (.tuple #[.agg #[.int .i64 2, .int .i64 A, .int .i64 B, .int .i64 C, .int .i64 room, .slice (some ad) 1 1, .int .i64 v0, .int .i64 0, .int .i64 0, .int .i64 0, .int .i64 0, .int .i64 0, .int .i64 0, .int .i64 now, .int .u64 seed], pktVal (xs.getD 0 default).p, .bool (decide (0 < xs.length)), .slice none 0 0, .int .i64 0]) ∧ Below w.heap.size w V ∧ HoldsL V ad (xs.drop 1)
def TakeGivesT (w : World) (A B C room v0 now seed : Int) (xs : List Ea.Item) (e : Ending) (V : World) : Prop :=
  ∃ g, e = .returned (.tuple #[.agg #[.int .i64 2, .int .i64 A, .int .i64 B, .int .i64 C, .int .i64 room, .slice (some ⟨g, 0, none⟩) 1 1, .int .i64 v0, .int .i64 0, .int .i64 0, .int .i64 0, .int .i64 0, .int .i64 0, .int .i64 0, .int .i64 now, .int .u64 seed], pktVal (xs.getD 0 default).p, .bool (decide (0 < xs.length)), .slice none 0 0, .int .i64 0]) ∧ Below w.heap.size w V ∧ HoldsT V ⟨g, 0, none⟩ (xs.drop 1)
theorem TakeGivesT.gives {w V : World} {A B C room v0 now seed : Int} {xs : List Ea.Item} {e : Ending} (h : TakeGivesT w A B C room v0 now seed xs e V) : TakeGives w A B C room v0 now seed xs e V := by
  obtain ⟨g, h1, h2, h3⟩ := h
  exact ⟨_, h1, h2, h3.holds⟩
theorem TakeSays.gives {w V : World} {A B C room v0 now seed : Int} {p : Ea.Pkt} {is : Bool} {n : Nat} {xs ys : List Ea.Item} {e : Ending} (h : TakeSays w A B C room v0 now seed p is n ys e V) (e1 : p = (xs.getD 0 default).p) (e2 : is = decide (0 < xs.length)) (e3 : ys = xs.drop 1) : TakeGivesT w A B C room v0 now seed xs e V := by
  obtain ⟨g1, a, c, h1, h2, h3, h4⟩ := h
  subst e1 e2 e3
  have hn := h4.1.1
  subst hn
  exact ⟨_, h1, h2, ⟨a, c, h3, h4⟩⟩
theorem take_anyT (A B C room : Int) (ad : Addr) (lc : Nat) (v0 v7 : Int) (seed : Int) (xs : List Ea.Item) (w : World) (hl : HoldsL w ad xs) (hq : QOk A B C room v0 v7 xs) (now : Int) (h0 : v7 ≤ now) (h1 : now ≤ 10000000) :
    Calls Tryd.prog 11 #[.agg #[.int .i64 2, .int .i64 A, .int .i64 B, .int .i64 C, .int .i64 room, .slice (some ad) 1 lc, .int .i64 v0, .int .i64 0, .int .i64 0, .int .i64 0, .int .i64 0, .int .i64 0, .int .i64 0, .int .i64 v7, .int .u64 seed], .int .i64 now] w
      (TakeGivesT w A B C room v0 now seed xs) := by
  obtain ⟨a, c, hc, hr⟩ := hl
  have hs := hq.short
  have hn : ((xs.length : Nat) : Int) ≤ 9223372036854775807 := by omega
  by_cases h2 : xs.length = 0
  · have e : xs = [] := List.eq_nil_of_length_eq_zero h2
    exact (take_none A B C room ad lc v0 v7 seed a xs.length c xs w hc hr hn hq now h0 h1 h2).mono fun _ _ h => h.gives (by rw [e]; rfl) (by rw [h2]; rfl) (by rw [e]; rfl)
  · by_cases h3 : xs.length = 1
    · exact (take_one A B C room ad lc v0 v7 seed a xs.length c xs w hc hr hn hq now h0 h1 h3).mono fun _ _ h => h.gives rfl (by simp [h3]) rfl
    · exact (take_two A B C room ad lc v0 v7 seed a xs.length c xs w hc hr hn hq now h0 h1 (by omega)).mono fun _ _ h => h.gives rfl (by simp; omega) rfl
theorem take_any (A B C room : Int) (ad : Addr) (lc : Nat) (v0 v7 : Int) (seed : Int) (xs : List Ea.Item) (w : World) (hl : HoldsL w ad xs) (hq : QOk A B C room v0 v7 xs) (now : Int) (h0 : v7 ≤ now) (h1 : now ≤ 10000000) :
    Calls Tryd.prog 11 #[.agg #[.int .i64 2, .int .i64 A, .int .i64 B, .int .i64 C, .int .i64 room, .slice (some ad) 1 lc, .int .i64 v0, .int .i64 0, .int .i64 0, .int .i64 0, .int .i64 0, .int .i64 0, .int .i64 0, .int .i64 v7, .int .u64 seed], .int .i64 now] w
      (TakeGives w A B C room v0 now seed xs) :=
  (take_anyT A B C room ad lc v0 v7 seed xs w hl hq now h0 h1).mono fun _ _ h => h.gives
theorem QOk.take {A B C room v0 v7 now : Int} {xs : List Ea.Item} (h : QOk A B C room v0 v7 xs) (h0 : v7 ≤ now) (h1 : now ≤ 10000000) : QOk A B C room v0 now (xs.drop 1) :=
  ⟨h.a0, h.ab, h.b1, h.c0, h.c1, h.r0, h.r1, Int.le_trans h.t0 h0, h1, h.w0, h.w1, by have := h.len; rw [List.length_drop]; omega, (h.list.later h0).drop⟩
theorem QOk.avg_in {A B C room v0 v7 : Int} {xs : List Ea.Item} (h : QOk A B C room v0 v7 xs) : 0 ≤ Ea.avg v0 xs.length (2 ^ C.toNat) ∧ Ea.avg v0 xs.length (2 ^ C.toNat) ≤ 512000 := by
  have := Ea.avg_bd (v := v0) (len := xs.length) (pow_one_le C.toNat)
  have := h.w0
  have := h.w1
  have := h.short
  generalize Ea.avg v0 xs.length (2 ^ C.toNat) = z at *
  omega
theorem QOk.put {A B C room v0 v7 now : Int} {xs : List Ea.Item} {p : Ea.Pkt} (h : QOk A B C room v0 v7 xs) (h0 : v7 ≤ now) (h1 : now ≤ 10000000) (hp : p.ok) (s : Nat) : QOk A B C room (Ea.avg v0 xs.length (2 ^ C.toNat)) now (Ea.stays xs p now (Ea.verdict A B xs.length room (Ea.avg v0 xs.length (2 ^ C.toNat)) s).1) := by
  have hz := h.avg_in
  have ht := h.t0
  have key : ∀ ys, ys.length ≤ room → Ea.listOk ys now → QOk A B C room (Ea.avg v0 xs.length (2 ^ C.toNat)) now ys := fun ys h2 h3 => ⟨h.a0, h.ab, h.b1, h.c0, h.c1, h.r0, h.r1, by omega, h1, hz.1, hz.2, h2, h3⟩
  have hlt : (Ea.verdict A B xs.length room (Ea.avg v0 xs.length (2 ^ C.toNat)) s).1 ≠ 2 → (xs.length : Int) + 1 ≤ room := by
    intro h2
    have := h.len
    by_cases e : (xs.length : Int) = room
    · exact absurd (by unfold Ea.verdict; rw [if_pos e]) h2
    · omega
  have hp' : Ea.Pkt.ok { p with marked := true } := ⟨hp.f0, hp.f1, hp.s0, hp.s1, hp.n0, hp.n1, hp.d0, hp.d1, hp.z0, hp.z1, hp.t0, hp.t1⟩
  unfold Ea.stays
  split
  · exact key xs h.len (h.list.later h0)
  · rename_i h2
    have := hlt h2
    split
    · split
      · exact key xs h.len (h.list.later h0)
      · exact key _ (by simp; omega) (h.list.snoc h0 (by omega) h1 hp')
    · exact key _ (by simp; omega) (h.list.snoc h0 (by omega) h1 hp)
end Go.Proofs.YtfeemiamjmmolaaDoor
