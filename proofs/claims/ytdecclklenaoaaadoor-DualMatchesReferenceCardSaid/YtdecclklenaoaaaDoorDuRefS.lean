/- The state of Take of the reference of package dual. -/
import Derived.Test.YtdecclklenaoaaaDoorDuRefP
import Derived.Test.YtdecclklenaoaaaDoorDuPlain
import Derived.Lib.MinMax
namespace Go.Proofs.YtdecclklenaoaaaDoor
open Go.RowKit

/-- The state in the loop: the queue's block, the results' blocks, both lists and the dropped packets. -/
structure RSt (w V : World) (A B room : Int) (ab ao lc : Nat) (v7 : Int) (a1 : Option Addr) (n1 d1 : Nat) (xs : List Ea.Item) (row : Int) (s : Nat) (a2 : Option Addr) (n2 d2 : Nat) (ys : List Ea.Item) (dr : Value) (drops : List Ea.Pkt) : Prop where
  hb : Below w.heap.size w V
  hq : Blk V w.heap.size (dqList A B room (some ⟨ab, ao, none⟩) lc row v7 s)
  hz : Blk V (w.heap.size + 1) zeroDQ
  hp : Blk V (w.heap.size + 1 + 1) zeroP
  ha : OwnL V (w.heap.size + 3) a1 n1 d1 xs
  hl : OwnL V (w.heap.size + 3) a2 n2 d2 ys
  hd : OwnP V (w.heap.size + 3) dr drops
theorem OwnP.keep {V V' : World} {base : Nat} {dr : Value} {drops : List Ea.Pkt} {row : Option Nat} (h : OwnP V base dr drops) (hg : V.grownBy V' row) (hr : ∀ k, row = some k → k < base) : OwnP V' base dr drops := by
  refine h.kept hg ?_
  cases hd : dr.ownBlock with
  | none => exact Or.inl rfl
  | some j => exact Or.inr (fun e => by have h1 := h.low j hd; have h2 := hr j e.symm; omega)
theorem OwnL.keep {V V' : World} {base : Nat} {a : Option Addr} {n c : Nat} {xs : List Ea.Item} {row : Option Nat} (h : OwnL V base a n c xs) (hg : V.grownBy V' row) (hr : ∀ k, row = some k → k < base) : OwnL V' base a n c xs :=
  h.kept hg (fun ad e hn e2 => by
    obtain ⟨g, e', h4, h5⟩ := h.head hn
    rw [e] at e'
    injection e' with e'
    subst e'
    have h1 := hr g e2.symm
    omega)
/-- Rows of packets are no rows of items. -/
theorem OwnL.off {V : World} {base b2 : Nat} {a : Option Addr} {n c : Nat} {xs : List Ea.Item} {dr : Value} {drops : List Ea.Pkt} (h : OwnL V base a n c xs) (hd : OwnP V b2 dr drops) : ∀ ad, a = some ad → 0 < n → some ad.block ≠ dr.ownBlock := by
  intro ad e hn e2
  obtain ⟨cs, fr, hc⟩ := h.rdT.2 ad e hn
  rcases hd.2 with ⟨hv, h0⟩ | ⟨g, cap, cur, hv, _, hg, _⟩
  · rw [hv] at e2
    cases e2
  · rw [hv] at e2
    injection e2 with e2
    simp only at e2
    rw [e2, hg] at hc
    injection hc with hc
    injection hc with _ hc _
    exact absurd hc (by decide)
theorem RSt.below {w V V' : World} {A B room : Int} {ab ao lc : Nat} {v7 : Int} {a1 : Option Addr} {n1 d1 : Nat} {xs : List Ea.Item} {row : Int} {s : Nat} {a2 : Option Addr} {n2 d2 : Nat} {ys : List Ea.Item} {dr : Value} {drops : List Ea.Pkt} (h : RSt w V A B room ab ao lc v7 a1 n1 d1 xs row s a2 n2 d2 ys dr drops) (hb : Below V.heap.size V V') : RSt w V' A B room ab ao lc v7 a1 n1 d1 xs row s a2 n2 d2 ys dr drops :=
  ⟨below_on h.hb hb, h.hq.below hb, h.hz.below hb, h.hp.below hb, h.ha.below hb, h.hl.below hb, own_below8 h.hd hb⟩
theorem RSt.row {w V : World} {A B room : Int} {ab ao lc : Nat} {v7 : Int} {a1 : Option Addr} {n1 d1 : Nat} {xs : List Ea.Item} {row : Int} {s : Nat} {a2 : Option Addr} {n2 d2 : Nat} {ys : List Ea.Item} {dr : Value} {drops : List Ea.Pkt} (h : RSt w V A B room ab ao lc v7 a1 n1 d1 xs row s a2 n2 d2 ys dr drops) (r : Int) : RSt w (V.setCell ⟨w.heap.size, 6, none⟩ (.int .i64 r)) A B room ab ao lc v7 a1 n1 d1 xs r s a2 n2 d2 ys dr drops :=
  have hg := grown_set V ⟨w.heap.size, 6, none⟩ (.int .i64 r)
  have hr : ∀ k, (some w.heap.size : Option Nat) = some k → k < w.heap.size + 3 := fun k e => by injection e with e; omega
  ⟨below_grown h.hb hg (fun k e => by injection e with e; simp only at e; omega), h.hq.set 6 _, h.hz.kept hg (fun e => by injection e with e; simp only at e; omega), h.hp.kept hg (fun e => by injection e with e; simp only at e; omega), h.ha.keep hg hr, h.hl.keep hg hr, h.hd.keep hg hr⟩
theorem RSt.seed {w V : World} {A B room : Int} {ab ao lc : Nat} {v7 : Int} {a1 : Option Addr} {n1 d1 : Nat} {xs : List Ea.Item} {row : Int} {s : Nat} {a2 : Option Addr} {n2 d2 : Nat} {ys : List Ea.Item} {dr : Value} {drops : List Ea.Pkt} (h : RSt w V A B room ab ao lc v7 a1 n1 d1 xs row s a2 n2 d2 ys dr drops) (s' : Nat) : RSt w (V.setCell ⟨w.heap.size, 14, none⟩ (.int .u64 (s' : Int))) A B room ab ao lc v7 a1 n1 d1 xs row s' a2 n2 d2 ys dr drops :=
  have hg := grown_set V ⟨w.heap.size, 14, none⟩ (.int .u64 (s' : Int))
  have hr : ∀ k, (some w.heap.size : Option Nat) = some k → k < w.heap.size + 3 := fun k e => by injection e with e; omega
  ⟨below_grown h.hb hg (fun k e => by injection e with e; simp only at e; omega), h.hq.set 14 _, h.hz.kept hg (fun e => by injection e with e; simp only at e; omega), h.hp.kept hg (fun e => by injection e with e; simp only at e; omega), h.ha.keep hg hr, h.hl.keep hg hr, h.hd.keep hg hr⟩
/-- A store into a block of the call's own that is none of the state's. -/
theorem RSt.list1 {w V : World} {A B room : Int} {ab ao lc : Nat} {v7 : Int} {a1 : Option Addr} {n1 d1 : Nat} {xs : List Ea.Item} {row : Int} {s : Nat} {a2 : Option Addr} {n2 d2 : Nat} {ys : List Ea.Item} {dr : Value} {drops : List Ea.Pkt} (h : RSt w V A B room ab ao lc v7 a1 n1 d1 xs row s a2 n2 d2 ys dr drops) {a3 : Option Addr} {n3 d3 : Nat} {zs : List Ea.Item} (h3 : OwnL V (w.heap.size + 3) a3 n3 d3 zs) : RSt w V A B room ab ao lc v7 a3 n3 d3 zs row s a2 n2 d2 ys dr drops :=
  ⟨h.hb, h.hq, h.hz, h.hp, h3, h.hl, h.hd⟩
theorem RSt.list2 {w V : World} {A B room : Int} {ab ao lc : Nat} {v7 : Int} {a1 : Option Addr} {n1 d1 : Nat} {xs : List Ea.Item} {row : Int} {s : Nat} {a2 : Option Addr} {n2 d2 : Nat} {ys : List Ea.Item} {dr : Value} {drops : List Ea.Pkt} (h : RSt w V A B room ab ao lc v7 a1 n1 d1 xs row s a2 n2 d2 ys dr drops) {a3 : Option Addr} {n3 d3 : Nat} {zs : List Ea.Item} (h3 : OwnL V (w.heap.size + 3) a3 n3 d3 zs) : RSt w V A B room ab ao lc v7 a1 n1 d1 xs row s a3 n3 d3 zs dr drops :=
  ⟨h.hb, h.hq, h.hz, h.hp, h.ha, h3, h.hd⟩
theorem RSt.push {w V V' : World} {A B room : Int} {ab ao lc : Nat} {v7 : Int} {a1 : Option Addr} {n1 d1 : Nat} {xs : List Ea.Item} {row : Int} {s : Nat} {a2 : Option Addr} {n2 d2 : Nat} {ys : List Ea.Item} {dr dr' : Value} {drops drops' : List Ea.Pkt} (h : RSt w V A B room ab ao lc v7 a1 n1 d1 xs row s a2 n2 d2 ys dr drops) (hg : V.grownBy V' dr.ownBlock) (ho : OwnP V' (w.heap.size + 3) dr' drops') : RSt w V' A B room ab ao lc v7 a1 n1 d1 xs row s a2 n2 d2 ys dr' drops' :=
  have lo : ∀ k, dr.ownBlock = some k → w.heap.size + 3 ≤ k := fun k e => h.hd.low k e
  ⟨below_grown h.hb hg (fun k e => by have := lo k e; omega), h.hq.kept hg (fun e => by have := lo _ e.symm; omega), h.hz.kept hg (fun e => by have := lo _ e.symm; omega), h.hp.kept hg (fun e => by have := lo _ e.symm; omega), h.ha.kept hg (h.ha.off h.hd), h.hl.kept hg (h.hl.off h.hd), ho⟩
/-- A block that lies behind all of the state's. -/
theorem RSt.apart {w V : World} {A B room : Int} {ab ao lc : Nat} {v7 : Int} {a1 : Option Addr} {n1 d1 : Nat} {xs : List Ea.Item} {row : Int} {s : Nat} {a2 : Option Addr} {n2 d2 : Nat} {ys : List Ea.Item} {dr : Value} {drops : List Ea.Pkt} (h : RSt w V A B room ab ao lc v7 a1 n1 d1 xs row s a2 n2 d2 ys dr drops) : (∀ ad, a1 = some ad → 0 < n1 → ad.block ≠ V.heap.size) ∧ (∀ ad, a2 = some ad → 0 < n2 → ad.block ≠ V.heap.size) ∧ dr.ownBlock ≠ some V.heap.size := by
  refine ⟨fun ad e hn => ?_, fun ad e hn => ?_, fun e => ?_⟩
  · obtain ⟨g, e', _, h5⟩ := h.ha.head hn
    rw [e] at e'
    injection e' with e'
    subst e'
    simp only
    omega
  · obtain ⟨g, e', _, h5⟩ := h.hl.head hn
    rw [e] at e'
    injection e' with e'
    subst e'
    simp only
    omega
  · have := (h.hd.lt _ e).2
    omega
theorem RSt.other {w V V' : World} {A B room : Int} {ab ao lc : Nat} {v7 : Int} {a1 : Option Addr} {n1 d1 : Nat} {xs : List Ea.Item} {row : Int} {s : Nat} {a2 : Option Addr} {n2 d2 : Nat} {ys : List Ea.Item} {dr : Value} {drops : List Ea.Pkt} (h : RSt w V A B room ab ao lc v7 a1 n1 d1 xs row s a2 n2 d2 ys dr drops) {pk : Nat} (hg : V.grownBy V' (some pk)) (hpk : w.heap.size + 1 + 1 < pk) (hap : (∀ ad, a1 = some ad → 0 < n1 → ad.block ≠ pk) ∧ (∀ ad, a2 = some ad → 0 < n2 → ad.block ≠ pk) ∧ dr.ownBlock ≠ some pk) : RSt w V' A B room ab ao lc v7 a1 n1 d1 xs row s a2 n2 d2 ys dr drops :=
  ⟨below_grown h.hb hg (fun k e => by injection e with e; omega), h.hq.kept hg (fun e => by injection e with e; omega), h.hz.kept hg (fun e => by injection e with e; omega), h.hp.kept hg (fun e => by injection e with e; omega), h.ha.kept hg (fun ad e hn e2 => hap.1 ad e hn (by injection e2)), h.hl.kept hg (fun ad e hn e2 => hap.2.1 ad e hn (by injection e2)), h.hd.kept hg (by
    cases hd : dr.ownBlock with
    | none => exact Or.inl rfl
    | some j => exact Or.inr (fun e => hap.2.2 (hd.trans e)))⟩
/-- What Take of the reference leaves. -/
def RTakeR (w : World) (A B room now : Int) (xs ys : List Ea.Item) (row : Int) (s : Nat) (p : Ea.Pkt) (is : Bool) (drops : List Ea.Pkt) (e : Ending) (V : World) : Prop :=
  ∃ g o lc a1 c1 a2 c2 da dc, e = .returned (.tuple #[.agg (dqList A B room (some ⟨g, o, none⟩) lc row now s).toArray, pktVal p, .bool is, .slice da drops.length dc, .int .i64 0]) ∧ Below w.heap.size w V ∧ QIn V A B room g o row now a1 xs.length c1 xs a2 ys.length c2 ys ∧ RdPk V (.slice da drops.length dc) drops
/-- The same, by the plain outcome. -/
def RTakeQ (w : World) (A B room now : Int) (o : Du.Out) (e : Ending) (V : World) : Prop := RTakeR w A B room now o.xs o.ys o.row o.seed (o.got.getD default) o.got.isSome o.drops e V
theorem rt_end {w Y Z1 Z2 : World} {A B room row now : Int} {ab ao lc : Nat} {v7 : Int} {a1 : Option Addr} {n1 d1 : Nat} {xs : List Ea.Item} {row0 : Int} {s0 : Nat} {a2 : Option Addr} {n2 d2 : Nat} {ys : List Ea.Item} {dr : Value} {drops : List Ea.Pkt} {hd : Nat} (h : RSt w Y A B room ab ao lc v7 a1 n1 d1 xs row0 s0 a2 n2 d2 ys dr drops) (hg1 : Y.grownBy Z1 (some (w.heap.size + 1))) (hg2 : Z1.grownBy Z2 (some (w.heap.size + 1 + 1))) (hhd : Blk Y hd [.slice a1 n1 d1, .slice a2 n2 d2]) (hne : w.heap.size + 2 < hd) (hok : Du.Ok A B room row now xs ys) :
    Below w.heap.size w Z2 ∧ QIn Z2 A B room hd 0 row now a1 n1 d1 xs a2 n2 d2 ys ∧ RdPk Z2 dr drops := by
  have r1 : ∀ k, (some (w.heap.size + 1) : Option Nat) = some k → k < w.heap.size + 3 := fun k e => by injection e with e; omega
  have r2 : ∀ k, (some (w.heap.size + 1 + 1) : Option Nat) = some k → k < w.heap.size + 3 := fun k e => by injection e with e; omega
  have hh := (hhd.kept hg1 (fun e => by injection e with e; omega)).kept hg2 (fun e => by injection e with e; omega)
  exact ⟨below_grown (below_grown h.hb hg1 (fun k e => by injection e with e; omega)) hg2 (fun k e => by injection e with e; omega), ⟨hh.cell 0 rfl, hh.cell 1 rfl, ((h.ha.keep hg1 r1).keep hg2 r2).rd, ((h.hl.keep hg1 r1).keep hg2 r2).rd, hok⟩, ((h.hd.keep hg1 r1).keep hg2 r2).rd⟩
def lenOf : Value → Nat
  | .slice _ n _ => n
  | _ => 0
theorem mark_same {p : Ea.Pkt} (h : p.marked = true) (c : Prop) [Decidable c] : (if c then { p with marked := true } else p) = { p with marked := true } := by
  split
  · rfl
  · cases p; simp only at h; subst h; rfl
theorem mark_other {p : Ea.Pkt} (h : p.marked = false) (c : Prop) [Decidable c] : (if c then { p with marked := true } else p) = { p with marked := decide c } := by
  split
  · rename_i k; rw [decide_eq_true k]
  · rename_i k; rw [decide_eq_false k]; cases p; simp only at h; subst h; rfl
theorem wpList_forget {ops : Array Oper} {rest : List Oper} {a : Act} {X : World} {o : Obj} {Q : Exit → Act → World → Prop} (h : ∀ V2, X.alloc o = V2 → wpList Tryd.prog ops Q rest a V2) : wpList Tryd.prog ops Q rest a (X.alloc o) := h _ rfl
theorem wpList_store_at {P : Program} {ops : Array Oper} {rest : List Oper} {op : Oper} {a : Act} {w' : World} {Q : Exit → Act → World → Prop} (hgd : op.guard = none) (ty : TypeId) (x y : Operand) (ho : op.op = .store ty x y) (w : World) (c c' : Array Value) (hw : w' = w.alloc (.cells c ty))
    (hx : a.eval x = .pointer (some ⟨w.heap.size, 0, none⟩)) (hy : a.eval y = .agg c') (hi : (P.info? ty).map (·.size) = some c'.size) (hc : c.size = c'.size) (h1 : c'.all (·.oneCell') = true)
    (h : wpList P ops Q rest (a.put op.dst undef) (w.alloc (.cells c' ty))) : wpList P ops Q (op :: rest) a w' := by
  subst hw
  exact wpList_store_new hgd ty x y ho c c' hx hy hi hc h1 h
theorem ok_since {A B room v0 v7 : Int} {xs ys : List Ea.Item} (h : Du.Ok A B room v0 v7 xs ys) : (∀ x xt, xs = x :: xt → 0 ≤ x.since ∧ x.since ≤ v7) ∧ (∀ y yt, ys = y :: yt → 0 ≤ y.since ∧ y.since ≤ v7) := by
  refine ⟨fun x xt e => ?_, fun y yt e => ?_⟩
  · subst e
    have := h.lx 0 (by simp)
    exact ⟨this.low, this.high⟩
  · subst e
    have := h.ly 0 (by simp)
    exact ⟨this.low, this.high⟩
theorem item_pkt {w : World} {b o : Nat} {y : Ea.Item} (h : w.rangeAt b o (itemList y)) : w.rangeAt b o (pktList y.p) := fun j v hv => by
  have hj : j < 8 := (List.getElem?_eq_some_iff.1 hv).1
  refine h j v ?_
  rw [← hv]
  match j, hj with
  | 0, _ => rfl
  | 1, _ => rfl
  | 2, _ => rfl
  | 3, _ => rfl
  | 4, _ => rfl
  | 5, _ => rfl
  | 6, _ => rfl
  | 7, _ => rfl
theorem rb_any (s : Nat) (w : World) : Calls Tryd.prog 36 #[.int .u64 (s : Int), .int .i64 1000000] w fun e w' => e = .returned (.tuple #[.int .i64 (Du.rnd s), .int .u64 (Rand.nextSeed s : Int), .int .i64 0]) ∧ w = w' :=
  rbelow_ok s 1000000 w (by decide) (by decide)
theorem press_min {B now : Int} {y : Ea.Item} {yt : List Ea.Item} : min 1000000 (B * (now - y.since)) = Du.press B now (y :: yt) := by
  unfold Du.press
  rw [if_neg (by simp)]
  simp only [List.getD_cons_zero]
  generalize B * (now - y.since) = z
  split <;> omega
theorem RdQ.at0 {V : World} {a : Option Addr} {n : Nat} {y : Ea.Item} {yt : List Ea.Item} (h : RdQ V a n (y :: yt)) : ∃ g o, a = some ⟨g, o, none⟩ ∧ V.rangeAt g o (itemList y) := by
  have h1 := h.1
  rw [List.length_cons] at h1
  obtain ⟨b, o, e, hr⟩ := h.2 0 (by omega)
  rw [Nat.zero_mul, Nat.add_zero] at hr
  exact ⟨b, o, e, hr⟩
theorem RdQ.tl {V : World} {g o n c : Nat} {y : Ea.Item} {yt : List Ea.Item} (h : RdQ V (some ⟨g, o, none⟩) n (y :: yt)) (hn : n ≤ c) : RdQ V (if c = 1 then some ⟨g, o, none⟩ else some ⟨g, o + 9, none⟩) (n - 1) yt := by
  have h1 := h.1
  rw [List.length_cons] at h1
  subst h1
  by_cases hc : c = 1
  · have h0 : yt = [] := List.eq_nil_of_length_eq_zero (by omega)
    subst h0
    exact ⟨rfl, fun i hi => absurd hi (by simp)⟩
  · rw [if_neg hc]
    exact h.drop
end Go.Proofs.YtdecclklenaoaaaDoor
