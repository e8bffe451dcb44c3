/- Put and Take of package dual as the laws call them: what they hand back lies in memory of their own. -/
import Derived.Test.YtdecclklenaoaaaDoorDuQ
namespace Go.Proofs.YtdecclklenaoaaaDoor
open Go.RowKit

def TakeF (w : World) (A B room now : Int) (o : Du.Out) (e : Ending) (V : World) : Prop :=
  ∃ g a1 c1 a2 c2 dr, e = .returned (.tuple #[.agg (dqList A B room (some ⟨g, 15, none⟩) 2 o.row now o.seed).toArray, pktVal (o.got.getD default), .bool o.got.isSome, dr, .int .i64 0]) ∧ Below w.heap.size w V ∧ QIn V A B room g 15 o.row now a1 o.xs.length c1 o.xs a2 o.ys.length c2 o.ys ∧ RdT V a1 o.xs.length o.xs ∧ RdT V a2 o.ys.length o.ys ∧ RdPk V dr o.drops ∧ FreshP w g dr
theorem take_f {w : World} {A B room : Int} {ab ao : Nat} {v0 v7 : Int} {a1 : Option Addr} {n1 c1 : Nat} {xs : List Ea.Item} {a2 : Option Addr} {n2 c2 : Nat} {ys : List Ea.Item} (hq : QIn w A B room ab ao v0 v7 a1 n1 c1 xs a2 n2 c2 ys) (lc : Nat) (s : Nat) (ht : Table w) (now : Int) (h0 : v7 ≤ now) (h1 : now ≤ 10000000) :
    Calls Tryd.prog 14 #[.agg (dqList A B room (some ⟨ab, ao, none⟩) lc v0 v7 s).toArray, .int .i64 now] w (TakeF w A B room now (Du.take A B now xs ys v0 s [])) := by
  refine (take_yes A B room ab ao lc v0 v7 s w a1 n1 c1 xs a2 n2 c2 ys hq.h1 hq.h2 hq.r1 hq.r2 hq.ok ht now h0 h1).mono ?_
  rintro e V ⟨g, a1', c1', a2', c2', dr, e1, hb, k1, k2, t1, t2, ho, hg⟩
  refine ⟨g, a1', c1', a2', c2', dr, e1, hb, ⟨k1, k2, t1.1, t2.1, Du.take_ok _ _ _ _ _ _ hq.ok h0 h1⟩, t1, t2, ho.rd, hg, ?_⟩
  rintro ad n c rfl
  rcases ho.2 with ⟨hv, _⟩ | ⟨b, cap, cur, hv, hb', _⟩
  · injection hv with hv
    cases hv
  · injection hv with hv
    injection hv with hv
    subst hv
    exact hb'
def PutF (w : World) (A B room v0 now : Int) (s : Nat) (r : List Ea.Item × List Ea.Item × List Ea.Pkt) (e : Ending) (V : World) : Prop :=
  ∃ g a1 c1 a2 c2 out, e = .returned (.tuple #[.agg (dqList A B room (some ⟨g, 15, none⟩) 2 v0 now s).toArray, out, .int .i64 0]) ∧ Below w.heap.size w V ∧ QIn V A B room g 15 v0 now a1 r.1.length c1 r.1 a2 r.2.1.length c2 r.2.1 ∧ RdT V a1 r.1.length r.1 ∧ RdT V a2 r.2.1.length r.2.1 ∧ RdPk V out r.2.2 ∧ FreshP w g out
theorem put_f {w : World} {A B room : Int} {ab ao : Nat} {v0 v7 : Int} {a1 : Option Addr} {n1 c1 : Nat} {xs : List Ea.Item} {a2 : Option Addr} {n2 c2 : Nat} {ys : List Ea.Item} (hq : QIn w A B room ab ao v0 v7 a1 n1 c1 xs a2 n2 c2 ys) (lc : Nat) (s : Nat) (p : Ea.Pkt) (hp : p.ok) (now : Int) (h0 : v7 ≤ now) (h1 : now ≤ 10000000) :
    Calls Tryd.prog 12 #[.agg (dqList A B room (some ⟨ab, ao, none⟩) lc v0 v7 s).toArray, pktVal p, .int .i64 now] w (PutF w A B room v0 now s (putX room xs ys p now)) := by
  have e1 := hq.r1.1
  have e2 := hq.r2.1
  unfold putX
  by_cases hf : room ≤ (xs.length : Int) + ys.length
  · rw [if_pos hf]
    refine (put_full A B room ab ao lc v0 v7 s w a1 n1 c1 xs a2 n2 c2 ys hq.h1 hq.h2 hq.r1 hq.r2 hq.ok p hp now h0 h1 (by rw [← e1, ← e2]; exact hf)).mono ?_
    rintro e V ⟨g, a1', c1', a2', c2', out, e1, hb, k1, k2, t1, t2, ho⟩
    exact ⟨g, a1', c1', a2', c2', out, e1, hb, ⟨k1, k2, t1.1, t2.1, hq.ok.move h0 h1 hq.ok.m0 hq.ok.m1 (Or.inl rfl) (Or.inl rfl)⟩, t1, t2, ho⟩
  · rw [if_neg hf]
    have hc := hq.ok.came h0 h1 hp (by omega)
    cases hab : p.able with
    | true =>
      rw [if_pos rfl]
      refine (put_able A B room ab ao lc v0 v7 s w a1 n1 c1 xs a2 n2 c2 ys hq.h1 hq.h2 hq.r1 hq.r2 hq.ok p hp now h0 h1 (by rw [← e1, ← e2]; omega) hab).mono ?_
      rintro e V ⟨g, a1', c1', a2', c2', out, e1, hb, k1, k2, t1, t2, ho⟩
      exact ⟨g, a1', c1', a2', c2', out, e1, hb, ⟨k1, k2, t1.1, t2.1, hc.1 hab⟩, t1, t2, ho⟩
    | false =>
      rw [if_neg (by simp)]
      refine (put_other A B room ab ao lc v0 v7 s w a1 n1 c1 xs a2 n2 c2 ys hq.h1 hq.h2 hq.r1 hq.r2 hq.ok p hp now h0 h1 (by rw [← e1, ← e2]; omega) hab).mono ?_
      rintro e V ⟨g, a1', c1', a2', c2', out, e1, hb, k1, k2, t1, t2, ho⟩
      exact ⟨g, a1', c1', a2', c2', out, e1, hb, ⟨k1, k2, t1.1, t2.1, hc.2 hab⟩, t1, t2, ho⟩
/-- Take, piece by piece. -/
def TakeFR (w : World) (A B room now : Int) (xs ys : List Ea.Item) (row : Int) (s : Nat) (p : Ea.Pkt) (is : Bool) (drops : List Ea.Pkt) (e : Ending) (V : World) : Prop :=
  ∃ g a1 c1 a2 c2 da dc, e = .returned (.tuple #[.agg (dqList A B room (some ⟨g, 15, none⟩) 2 row now s).toArray, pktVal p, .bool is, .slice da drops.length dc, .int .i64 0]) ∧ Below w.heap.size w V ∧ QIn V A B room g 15 row now a1 xs.length c1 xs a2 ys.length c2 ys ∧ RdT V a1 xs.length xs ∧ RdT V a2 ys.length ys ∧ RdPk V (.slice da drops.length dc) drops ∧ FreshP w g (.slice da drops.length dc)
theorem take_fr {w : World} {A B room : Int} {ab ao : Nat} {v0 v7 : Int} {a1 : Option Addr} {n1 c1 : Nat} {xs : List Ea.Item} {a2 : Option Addr} {n2 c2 : Nat} {ys : List Ea.Item} (hq : QIn w A B room ab ao v0 v7 a1 n1 c1 xs a2 n2 c2 ys) (lc : Nat) (s : Nat) (ht : Table w) (now : Int) (h0 : v7 ≤ now) (h1 : now ≤ 10000000)
    {xs' ys' : List Ea.Item} {row : Int} {s' : Nat} {got : Option Ea.Pkt} {drops : List Ea.Pkt} (ho : Du.take A B now xs ys v0 s [] = ⟨xs', ys', row, s', got, drops⟩) (p : Ea.Pkt) (is : Bool) (hp : got.getD default = p) (hi : got.isSome = is) :
    Calls Tryd.prog 14 #[.agg (dqList A B room (some ⟨ab, ao, none⟩) lc v0 v7 s).toArray, .int .i64 now] w (TakeFR w A B room now xs' ys' row s' p is drops) := by
  refine (take_f hq lc s ht now h0 h1).mono ?_
  rw [ho]
  rintro e V ⟨g, a1, c1, a2, c2, dr, rfl, hb, hq', t1, t2, hd, hf⟩
  subst hp hi
  obtain ⟨da, dc, rfl, hd2⟩ := id hd
  exact ⟨g, a1, c1, a2, c2, da, dc, rfl, hb, hq', t1, t2, hd, hf⟩
def PutFR (w : World) (A B room v0 now : Int) (s : Nat) (xs ys : List Ea.Item) (drops : List Ea.Pkt) (e : Ending) (V : World) : Prop :=
  ∃ g a1 c1 a2 c2 da dc, e = .returned (.tuple #[.agg (dqList A B room (some ⟨g, 15, none⟩) 2 v0 now s).toArray, .slice da drops.length dc, .int .i64 0]) ∧ Below w.heap.size w V ∧ QIn V A B room g 15 v0 now a1 xs.length c1 xs a2 ys.length c2 ys ∧ RdT V a1 xs.length xs ∧ RdT V a2 ys.length ys ∧ RdPk V (.slice da drops.length dc) drops ∧ FreshP w g (.slice da drops.length dc)
theorem put_fr {w : World} {A B room : Int} {ab ao : Nat} {v0 v7 : Int} {a1 : Option Addr} {n1 c1 : Nat} {xs : List Ea.Item} {a2 : Option Addr} {n2 c2 : Nat} {ys : List Ea.Item} (hq : QIn w A B room ab ao v0 v7 a1 n1 c1 xs a2 n2 c2 ys) (lc : Nat) (s : Nat) (p : Ea.Pkt) (hp : p.ok) (now : Int) (h0 : v7 ≤ now) (h1 : now ≤ 10000000)
    {xs' ys' : List Ea.Item} {drops : List Ea.Pkt} (ho : putX room xs ys p now = (xs', ys', drops)) :
    Calls Tryd.prog 12 #[.agg (dqList A B room (some ⟨ab, ao, none⟩) lc v0 v7 s).toArray, pktVal p, .int .i64 now] w (PutFR w A B room v0 now s xs' ys' drops) := by
  refine (put_f hq lc s p hp now h0 h1).mono ?_
  rw [ho]
  rintro e V ⟨g, a1, c1, a2, c2, dr, rfl, hb, hq', t1, t2, hd, hf⟩
  obtain ⟨da, dc, rfl, hd2⟩ := id hd
  exact ⟨g, a1, c1, a2, c2, da, dc, rfl, hb, hq', t1, t2, hd, hf⟩
theorem FreshP.mono {w w' : World} {g : Nat} {v : Value} (h : FreshP w' g v) (hz : w.heap.size ≤ w'.heap.size) : FreshP w g v := ⟨Nat.le_trans hz h.1, fun ad n c e => Nat.le_trans hz (h.2 ad n c e)⟩
end Go.Proofs.YtdecclklenaoaaaDoor
