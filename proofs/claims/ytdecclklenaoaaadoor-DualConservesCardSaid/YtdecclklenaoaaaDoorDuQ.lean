/- Put and Take of package dual as the laws call them; an empty queue. -/
import Derived.Test.YtdecclklenaoaaaDoorDuTake
import Derived.Test.YtdecclklenaoaaaDoorDuPutA
import Derived.Test.YtdecclklenaoaaaDoorDuPutB
import Derived.Test.YtdecclklenaoaaaDoorDuUse
import Derived.Test.YtdecclklenaoaaaDoorDuPlain
namespace Go.Proofs.YtdecclklenaoaaaDoor
open Go.RowKit

/-- What Take says, as a queue that goes on. -/
def TakeQ (w : World) (A B room now : Int) (o : Du.Out) (e : Ending) (V : World) : Prop :=
  ∃ g a1 c1 a2 c2 dr, e = .returned (.tuple #[.agg (dqList A B room (some ⟨g, 15, none⟩) 2 o.row now o.seed).toArray, pktVal (o.got.getD default), .bool o.got.isSome, dr, .int .i64 0]) ∧ Below w.heap.size w V ∧ QIn V A B room g 15 o.row now a1 o.xs.length c1 o.xs a2 o.ys.length c2 o.ys ∧ RdT V a1 o.xs.length o.xs ∧ RdT V a2 o.ys.length o.ys ∧ RdPk V dr o.drops
theorem take_q {w : World} {A B room : Int} {ab ao : Nat} {v0 v7 : Int} {a1 : Option Addr} {n1 c1 : Nat} {xs : List Ea.Item} {a2 : Option Addr} {n2 c2 : Nat} {ys : List Ea.Item} (hq : QIn w A B room ab ao v0 v7 a1 n1 c1 xs a2 n2 c2 ys) (lc : Nat) (s : Nat) (ht : Table w) (now : Int) (h0 : v7 ≤ now) (h1 : now ≤ 10000000) :
    Calls Tryd.prog 14 #[.agg (dqList A B room (some ⟨ab, ao, none⟩) lc v0 v7 s).toArray, .int .i64 now] w (TakeQ w A B room now (Du.take A B now xs ys v0 s [])) := by
  refine (take_yes A B room ab ao lc v0 v7 s w a1 n1 c1 xs a2 n2 c2 ys hq.h1 hq.h2 hq.r1 hq.r2 hq.ok ht now h0 h1).mono ?_
  rintro e V ⟨g, a1', c1', a2', c2', dr, e1, hb, k1, k2, t1, t2, ho, -⟩
  exact ⟨g, a1', c1', a2', c2', dr, e1, hb, ⟨k1, k2, t1.1, t2.1, Du.take_ok _ _ _ _ _ _ hq.ok h0 h1⟩, t1, t2, ho.rd⟩
/-- What is left when a packet comes. -/
def putX (room : Int) (xs ys : List Ea.Item) (p : Ea.Pkt) (now : Int) : List Ea.Item × List Ea.Item × List Ea.Pkt :=
  if room ≤ (xs.length : Int) + ys.length then (xs, ys, [p]) else if p.able then (xs ++ [⟨p, now⟩], ys, []) else (xs, ys ++ [⟨p, now⟩], [])
def PutQ (w : World) (A B room v0 now : Int) (s : Nat) (r : List Ea.Item × List Ea.Item × List Ea.Pkt) (e : Ending) (V : World) : Prop :=
  ∃ g a1 c1 a2 c2 out, e = .returned (.tuple #[.agg (dqList A B room (some ⟨g, 15, none⟩) 2 v0 now s).toArray, out, .int .i64 0]) ∧ Below w.heap.size w V ∧ QIn V A B room g 15 v0 now a1 r.1.length c1 r.1 a2 r.2.1.length c2 r.2.1 ∧ RdT V a1 r.1.length r.1 ∧ RdT V a2 r.2.1.length r.2.1 ∧ RdPk V out r.2.2
theorem put_q {w : World} {A B room : Int} {ab ao : Nat} {v0 v7 : Int} {a1 : Option Addr} {n1 c1 : Nat} {xs : List Ea.Item} {a2 : Option Addr} {n2 c2 : Nat} {ys : List Ea.Item} (hq : QIn w A B room ab ao v0 v7 a1 n1 c1 xs a2 n2 c2 ys) (lc : Nat) (s : Nat) (p : Ea.Pkt) (hp : p.ok) (now : Int) (h0 : v7 ≤ now) (h1 : now ≤ 10000000) :
    Calls Tryd.prog 12 #[.agg (dqList A B room (some ⟨ab, ao, none⟩) lc v0 v7 s).toArray, pktVal p, .int .i64 now] w (PutQ w A B room v0 now s (putX room xs ys p now)) := by
  have e1 := hq.r1.1
  have e2 := hq.r2.1
  unfold putX
  by_cases hf : room ≤ (xs.length : Int) + ys.length
  · rw [if_pos hf]
    refine (put_full A B room ab ao lc v0 v7 s w a1 n1 c1 xs a2 n2 c2 ys hq.h1 hq.h2 hq.r1 hq.r2 hq.ok p hp now h0 h1 (by rw [← e1, ← e2]; exact hf)).mono ?_
    rintro e V ⟨g, a1', c1', a2', c2', out, e1, hb, k1, k2, t1, t2, ho, -⟩
    exact ⟨g, a1', c1', a2', c2', out, e1, hb, ⟨k1, k2, t1.1, t2.1, hq.ok.move h0 h1 hq.ok.m0 hq.ok.m1 (Or.inl rfl) (Or.inl rfl)⟩, t1, t2, ho⟩
  · rw [if_neg hf]
    have hc := hq.ok.came h0 h1 hp (by omega)
    cases hab : p.able with
    | true =>
      rw [if_pos rfl]
      refine (put_able A B room ab ao lc v0 v7 s w a1 n1 c1 xs a2 n2 c2 ys hq.h1 hq.h2 hq.r1 hq.r2 hq.ok p hp now h0 h1 (by rw [← e1, ← e2]; omega) hab).mono ?_
      rintro e V ⟨g, a1', c1', a2', c2', out, e1, hb, k1, k2, t1, t2, ho, -⟩
      exact ⟨g, a1', c1', a2', c2', out, e1, hb, ⟨k1, k2, t1.1, t2.1, hc.1 hab⟩, t1, t2, ho⟩
    | false =>
      rw [if_neg (by simp)]
      refine (put_other A B room ab ao lc v0 v7 s w a1 n1 c1 xs a2 n2 c2 ys hq.h1 hq.h2 hq.r1 hq.r2 hq.ok p hp now h0 h1 (by rw [← e1, ← e2]; omega) hab).mono ?_
      rintro e V ⟨g, a1', c1', a2', c2', out, e1, hb, k1, k2, t1, t2, ho, -⟩
      exact ⟨g, a1', c1', a2', c2', out, e1, hb, ⟨k1, k2, t1.1, t2.1, hc.2 hab⟩, t1, t2, ho⟩
/-- An empty queue. -/
def EmptyQ (w : World) (A B room : Int) (s : Nat) (e : Ending) (V : World) : Prop :=
  ∃ g a1 a2, e = .returned (.agg (dqList A B room (some ⟨g, 0, none⟩) 2 0 0 s).toArray) ∧ Below w.heap.size w V ∧ QIn V A B room g 0 0 0 a1 0 0 [] a2 0 0 []
set_option maxRecDepth 100000 in
set_option maxHeartbeats 4000000 in
theorem empty_any (A B room : Int) (s : Nat) (w : World) (hk : Du.Ok A B room 0 0 [] []) : Calls Tryd.prog 20 #[.int .i64 A, .int .i64 B, .int .i64 room, .int .u64 (s : Int)] w (EmptyQ w A B room s) := by
  have HK := Lib.hid hk
  clear hk
  go_enter Tryd.func20, Tryd.ntmps20
  go_wp2
  refine bodyPost_ret (results_c Tryd.results20 rfl (run_loadVar_mid _ w.heap.size 0 28 (dqList A B room (some ⟨w.heap.size + 1 + 1 + 1, 0, none⟩) 2 0 0 s) _ ((Blk.new w (dqList A B room (some ⟨w.heap.size + 1 + 1 + 1, 0, none⟩) 2 0 0 s).toArray 28).below (below_new (below_new (below_new (Below.refl _ _) _) _) _)).range Tryd.underlying28 rfl (by kernel_rfl))) rfl ?_
  have hb := blk_new_at (((w.alloc (.cells (dqList A B room (some ⟨w.heap.size + 1 + 1 + 1, 0, none⟩) 2 0 0 s).toArray 28)).alloc (.cells #[] 51)).alloc (.cells #[] 51)) #[.slice (some ⟨w.heap.size + 1, 0, none⟩) 0 0, .slice (some ⟨w.heap.size + 1 + 1, 0, none⟩) 0 0] 49 (g := w.heap.size + 1 + 1 + 1) (by simp)
  exact ⟨_, _, _, rfl, below_new (below_new (below_new (below_new (Below.refl _ _) _) _) _) _, hb.cell 0 rfl, hb.cell 1 rfl, ⟨rfl, fun i hi => absurd hi (Nat.not_lt_zero i)⟩, ⟨rfl, fun i hi => absurd hi (Nat.not_lt_zero i)⟩, HK.out⟩
/-- A block in which no list of packets can lie, nor a pair. -/
def Small (cs : List Value) : Prop := cs.length ≤ 15 ∧ ∀ (o : Nat) (x : Ea.Item), (∀ (j : Nat) (v : Value), (itemList x)[j]? = some v → cs[o + j]? = some v) → False
theorem small_pkt (p : Ea.Pkt) : Small (pktList p) := ⟨by simp, fun o x h => by
  have := h 8 _ rfl
  rw [List.getElem?_eq_none (by simp)] at this
  cases this⟩
theorem item_cell (x : Ea.Item) (j : Nat) (hj : j < 9) : (∃ z, (itemList x)[j]? = some (.int .i64 z)) ∨ ∃ b, (itemList x)[j]? = some (.bool b) := by
  match j, hj with
  | 0, _ => exact Or.inl ⟨_, rfl⟩
  | 1, _ => exact Or.inl ⟨_, rfl⟩
  | 2, _ => exact Or.inl ⟨_, rfl⟩
  | 3, _ => exact Or.inl ⟨_, rfl⟩
  | 4, _ => exact Or.inl ⟨_, rfl⟩
  | 5, _ => exact Or.inl ⟨_, rfl⟩
  | 6, _ => exact Or.inr ⟨_, rfl⟩
  | 7, _ => exact Or.inr ⟨_, rfl⟩
  | 8, _ => exact Or.inl ⟨_, rfl⟩
theorem small_q {cs : List Value} {a : Option Addr} {n c : Nat} {zs : Int} (hl : cs.length = 15) (h5' : cs[5]? = some (.slice a n c)) (h14' : cs[14]? = some (.int .u64 zs)) : Small cs := ⟨Nat.le_of_eq hl, fun o x h => by
  have go : ∀ k, o ≤ k → k - o < 9 → (∃ z, cs[k]? = some (.int .i64 z)) ∨ ∃ b, cs[k]? = some (.bool b) := fun k h1 h2 => by
    rcases item_cell x (k - o) h2 with ⟨z, hz⟩ | ⟨z, hz⟩
    · exact Or.inl ⟨z, by have := h _ _ hz; rwa [show o + (k - o) = k by omega] at this⟩
    · exact Or.inr ⟨z, by have := h _ _ hz; rwa [show o + (k - o) = k by omega] at this⟩
  by_cases h5 : o ≤ 5
  · rcases go 5 h5 (by omega) with ⟨z, hz⟩ | ⟨z, hz⟩
    · rw [h5'] at hz; injection hz with hz; cases hz
    · rw [h5'] at hz; injection hz with hz; cases hz
  · by_cases h14 : o ≤ 14
    · rcases go 14 h14 (by omega) with ⟨z, hz⟩ | ⟨z, hz⟩
      · rw [h14'] at hz; injection hz with hz; cases hz
      · rw [h14'] at hz; injection hz with hz; cases hz
    · have := h 0 _ rfl
      rw [List.getElem?_eq_none (by omega)] at this
      cases this⟩
theorem rdQ_small {V V' : World} {a : Option Addr} {n : Nat} {xs : List Ea.Item} {k : Nat} {cs : List Value} (h : RdQ V a n xs) (hb : Blk V k cs) (hc : Small cs) (hg : V.grownBy V' (some k)) : RdQ V' a n xs := by
  rcases Nat.eq_zero_or_pos n with h0 | h0
  · subst h0
    exact ⟨h.1, fun i hi => absurd hi (Nat.not_lt_zero i)⟩
  · refine h.kept hg (fun ad e e2 => ?_)
    injection e2 with e2
    subst e2
    obtain ⟨b, o, e3, hr⟩ := h.2 0 h0
    rw [e] at e3
    injection e3 with e3
    subst e3
    refine hc.2 o (xs.getD 0 default) (fun j v hv => ?_)
    have h1 := hr j v hv
    rw [Nat.zero_mul, Nat.add_zero] at h1
    obtain ⟨t, ht⟩ := hb
    simp only [World.cell?] at h1
    simp only at ht
    rw [ht] at h1
    simpa using h1
theorem QIn.small {V V' : World} {A B room : Int} {g : Nat} {v0 v7 : Int} {a1 : Option Addr} {n1 c1 : Nat} {xs : List Ea.Item} {a2 : Option Addr} {n2 c2 : Nat} {ys : List Ea.Item} {k : Nat} {cs : List Value} (h : QIn V A B room g 15 v0 v7 a1 n1 c1 xs a2 n2 c2 ys) (hb : Blk V k cs) (hc : Small cs) (hg : V.grownBy V' (some k)) : QIn V' A B room g 15 v0 v7 a1 n1 c1 xs a2 n2 c2 ys := by
  have hne : g ≠ k := fun e => by
    subst e
    have h1 := h.h1
    obtain ⟨t, ht⟩ := hb
    simp only [World.cell?, ht] at h1
    have hl := hc.1
    rw [if_neg (by simp)] at h1
    obtain ⟨h2, _⟩ := Array.getElem?_eq_some_iff.1 h1
    rw [List.size_toArray] at h2
    omega
  exact ⟨hg.cell h.h1 (by simp; exact hne), hg.cell h.h2 (by simp; exact hne), rdQ_small h.r1 hb hc hg, rdQ_small h.r2 hb hc hg, h.ok⟩
/-- What Take says, piece by piece. -/
def TakeR (w : World) (A B room now : Int) (xs ys : List Ea.Item) (row : Int) (s : Nat) (p : Ea.Pkt) (is : Bool) (drops : List Ea.Pkt) (e : Ending) (V : World) : Prop :=
  ∃ g a1 c1 a2 c2 da dc, e = .returned (.tuple #[.agg (dqList A B room (some ⟨g, 15, none⟩) 2 row now s).toArray, pktVal p, .bool is, .slice da drops.length dc, .int .i64 0]) ∧ Below w.heap.size w V ∧ QIn V A B room g 15 row now a1 xs.length c1 xs a2 ys.length c2 ys ∧ RdT V a1 xs.length xs ∧ RdT V a2 ys.length ys ∧ RdPk V (.slice da drops.length dc) drops
theorem take_r {w : World} {A B room : Int} {ab ao : Nat} {v0 v7 : Int} {a1 : Option Addr} {n1 c1 : Nat} {xs : List Ea.Item} {a2 : Option Addr} {n2 c2 : Nat} {ys : List Ea.Item} (hq : QIn w A B room ab ao v0 v7 a1 n1 c1 xs a2 n2 c2 ys) (lc : Nat) (s : Nat) (ht : Table w) (now : Int) (h0 : v7 ≤ now) (h1 : now ≤ 10000000)
    {xs' ys' : List Ea.Item} {row : Int} {s' : Nat} {got : Option Ea.Pkt} {drops : List Ea.Pkt} (ho : Du.take A B now xs ys v0 s [] = ⟨xs', ys', row, s', got, drops⟩) (p : Ea.Pkt) (is : Bool) (hp : got.getD default = p) (hi : got.isSome = is) :
    Calls Tryd.prog 14 #[.agg (dqList A B room (some ⟨ab, ao, none⟩) lc v0 v7 s).toArray, .int .i64 now] w (TakeR w A B room now xs' ys' row s' p is drops) := by
  refine (take_q hq lc s ht now h0 h1).mono ?_
  rw [ho]
  rintro e V ⟨g, a1, c1, a2, c2, dr, rfl, hb, hq', t1, t2, hd⟩
  subst hp hi
  obtain ⟨da, dc, rfl, hd2⟩ := id hd
  exact ⟨g, a1, c1, a2, c2, da, dc, rfl, hb, hq', t1, t2, hd⟩
def PutR (w : World) (A B room v0 now : Int) (s : Nat) (xs ys : List Ea.Item) (drops : List Ea.Pkt) (e : Ending) (V : World) : Prop :=
  ∃ g a1 c1 a2 c2 da dc, e = .returned (.tuple #[.agg (dqList A B room (some ⟨g, 15, none⟩) 2 v0 now s).toArray, .slice da drops.length dc, .int .i64 0]) ∧ Below w.heap.size w V ∧ QIn V A B room g 15 v0 now a1 xs.length c1 xs a2 ys.length c2 ys ∧ RdT V a1 xs.length xs ∧ RdT V a2 ys.length ys ∧ RdPk V (.slice da drops.length dc) drops
theorem put_r {w : World} {A B room : Int} {ab ao : Nat} {v0 v7 : Int} {a1 : Option Addr} {n1 c1 : Nat} {xs : List Ea.Item} {a2 : Option Addr} {n2 c2 : Nat} {ys : List Ea.Item} (hq : QIn w A B room ab ao v0 v7 a1 n1 c1 xs a2 n2 c2 ys) (lc : Nat) (s : Nat) (p : Ea.Pkt) (hp : p.ok) (now : Int) (h0 : v7 ≤ now) (h1 : now ≤ 10000000)
    {xs' ys' : List Ea.Item} {drops : List Ea.Pkt} (ho : putX room xs ys p now = (xs', ys', drops)) :
    Calls Tryd.prog 12 #[.agg (dqList A B room (some ⟨ab, ao, none⟩) lc v0 v7 s).toArray, pktVal p, .int .i64 now] w (PutR w A B room v0 now s xs' ys' drops) := by
  refine (put_q hq lc s p hp now h0 h1).mono ?_
  rw [ho]
  rintro e V ⟨g, a1, c1, a2, c2, dr, rfl, hb, hq', t1, t2, hd⟩
  obtain ⟨da, dc, rfl, hd2⟩ := id hd
  exact ⟨g, a1, c1, a2, c2, da, dc, rfl, hb, hq', t1, t2, hd⟩
end Go.Proofs.YtdecclklenaoaaaDoor
