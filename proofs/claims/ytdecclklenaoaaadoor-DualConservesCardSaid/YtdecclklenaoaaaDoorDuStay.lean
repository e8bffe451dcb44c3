/- The state of DualConserves between its calls. -/
import Derived.Test.YtdecclklenaoaaaDoorDuSome
import Derived.Test.YtdecclklenaoaaaDoorDuFresh
namespace Go.Proofs.YtdecclklenaoaaaDoor
open Go.RowKit

theorem Gone.apart {V : World} {b : Nat} {gone : List Int} (h : Gone V b gone) {a : Addr} {u : Value} (hc : V.cell? a = some u) : a.block ≠ b := by
  obtain ⟨D, ⟨es, clock, hb, _⟩, _⟩ := h
  intro e
  simp only [World.cell?, e, hb] at hc
  cases hc
theorem Gone.own {V : World} {b : Nat} {gone : List Int} (h : Gone V b gone) {base : Nat} {v : Value} {xs : List Ea.Pkt} (ho : OwnP V base v xs) : v.ownBlock ≠ some b := by
  intro e
  obtain ⟨D, ⟨es, clock, hb, _⟩, _⟩ := h
  rcases ho.2 with ⟨rfl, _⟩ | ⟨g, cap, cur, rfl, _, hg, _⟩
  · simp [Value.ownBlock] at e
  · have e2 : g = b := by simpa [Value.ownBlock] using e
    subst e2
    rw [hb] at hg
    cases hg
theorem OwnP.typed {V : World} {base : Nat} {v : Value} {xs : List Ea.Pkt} (h : OwnP V base v xs) {g : Nat} (e : v.ownBlock = some g) : ∃ cs fr, V.heap[g]? = some (.cells cs 30 fr) := by
  rcases h.2 with ⟨rfl, _⟩ | ⟨g', cap, cur, rfl, _, hg, _⟩
  · simp [Value.ownBlock] at e
  · have e2 : g' = g := by simpa [Value.ownBlock] using e
    subst e2
    exact ⟨_, _, hg⟩
theorem rdPk_kept {V V' : World} {v : Value} {ps : List Ea.Pkt} {row : Option Nat} (h : RdPk V v ps) (hg : V.grownBy V' row) (hne : ∀ ad n c, v = .slice (some ad) n c → some ad.block ≠ row) : RdPk V' v ps := by
  obtain ⟨a, c, rfl, h2⟩ := h
  exact ⟨a, c, rfl, fun i hi => by
    obtain ⟨b, o, rfl, hr⟩ := h2 i hi
    exact ⟨b, o, rfl, rangeAt_kept hr hg (hne _ _ _ rfl)⟩⟩
theorem rdPk_below {V V' : World} {v : Value} {ps : List Ea.Pkt} (h : RdPk V v ps) (hb : Below V.heap.size V V') : RdPk V' v ps := by
  obtain ⟨a, c, rfl, h2⟩ := h
  exact ⟨a, c, rfl, fun i hi => by
    obtain ⟨b, o, rfl, hr⟩ := h2 i hi
    exact ⟨b, o, rfl, rangeAt_below hr hb⟩⟩
theorem rangeAt_apart {V V' : World} {b o k : Nat} {cs : List Value} (h : V.rangeAt b o cs) (hg : V.grownBy V' (some k)) (hk : ∀ (ad : Addr) (u : Value), V.cell? ad = some u → ad.block ≠ k) : V'.rangeAt b o cs :=
  fun j v hv => hg.cell (h j v hv) (fun e => hk _ _ (h j v hv) (by injection e))
theorem rdPk_apart {V V' : World} {v : Value} {ps : List Ea.Pkt} {k : Nat} (h : RdPk V v ps) (hg : V.grownBy V' (some k)) (hk : ∀ (ad : Addr) (u : Value), V.cell? ad = some u → ad.block ≠ k) : RdPk V' v ps := by
  obtain ⟨a, c, rfl, h2⟩ := h
  exact ⟨a, c, rfl, fun i hi => by
    obtain ⟨b, o, rfl, hr⟩ := h2 i hi
    exact ⟨b, o, rfl, rangeAt_apart hr hg hk⟩⟩
theorem rdQ_apart {V V' : World} {a : Option Addr} {n : Nat} {xs : List Ea.Item} {k : Nat} (h : RdQ V a n xs) (hg : V.grownBy V' (some k)) (hk : ∀ (ad : Addr) (u : Value), V.cell? ad = some u → ad.block ≠ k) : RdQ V' a n xs :=
  ⟨h.1, fun i hi => by
    obtain ⟨b, o, rfl, hr⟩ := h.2 i hi
    exact ⟨b, o, rfl, rangeAt_apart hr hg hk⟩⟩
theorem QIn.apart {V V' : World} {A B room : Int} {g go : Nat} {v0 v7 : Int} {a1 : Option Addr} {n1 c1 : Nat} {xs : List Ea.Item} {a2 : Option Addr} {n2 c2 : Nat} {ys : List Ea.Item} {k : Nat} (h : QIn V A B room g go v0 v7 a1 n1 c1 xs a2 n2 c2 ys) (hg : V.grownBy V' (some k)) (hk : ∀ (ad : Addr) (u : Value), V.cell? ad = some u → ad.block ≠ k) : QIn V' A B room g go v0 v7 a1 n1 c1 xs a2 n2 c2 ys :=
  ⟨hg.cell h.h1 (fun e => hk _ _ h.h1 (by injection e)), hg.cell h.h2 (fun e => hk _ _ h.h2 (by injection e)), rdQ_apart h.r1 hg hk, rdQ_apart h.r2 hg hk, h.ok⟩
theorem rdT_row {V V' : World} {a : Option Addr} {n : Nat} {xs : List Ea.Item} {r : Option Nat} (h : RdT V a n xs) (hg : V.grownBy V' r) (hr : ∀ b, r = some b → ∃ cs fr, V.heap[b]? = some (.cells cs 30 fr)) : RdQ V' a n xs :=
  ⟨h.1.1, fun i hi => by
    obtain ⟨b, o, rfl, hx⟩ := h.1.2 i hi
    obtain ⟨cs, fr, hcs⟩ := h.2 _ rfl (by omega)
    refine ⟨b, o, rfl, rangeAt_kept hx hg (fun e => ?_)⟩
    obtain ⟨cs', fr', hcs'⟩ := hr b e.symm
    rw [hcs] at hcs'
    injection hcs' with hcs'
    injection hcs' with _ ht _
    exact absurd ht (by decide)⟩
/-- The queue that lies in block kq. -/
def QAt (V : World) (kq : Nat) (A B room now : Int) (xs ys : List Ea.Item) : Prop :=
  ∃ g go lc v0 s a1 c1 a2 c2, Blk V kq (dqList A B room (some ⟨g, go, none⟩) lc v0 now s) ∧ QIn V A B room g go v0 now a1 xs.length c1 xs a2 ys.length c2 ys
theorem QAt.below {V V' : World} {kq : Nat} {A B room now : Int} {xs ys : List Ea.Item} (h : QAt V kq A B room now xs ys) (hb : Below V.heap.size V V') : QAt V' kq A B room now xs ys := by
  obtain ⟨g, go, lc, v0, s, a1, c1, a2, c2, h1, h2⟩ := h
  exact ⟨g, go, lc, v0, s, a1, c1, a2, c2, h1.below hb, h2.below hb⟩
theorem QAt.lt {V : World} {kq : Nat} {A B room now : Int} {xs ys : List Ea.Item} (h : QAt V kq A B room now xs ys) : kq < V.heap.size := by
  obtain ⟨g, go, lc, v0, s, a1, c1, a2, c2, h1, h2⟩ := h
  exact h1.lt
structure CSt (W V : World) (kq bm : Nat) (A B room now : Int) (i : Nat) (vc vt : Value) (xs ys : List Ea.Item) (came taken : List Ea.Pkt) (gone : List Int) : Prop where
  below : Below W.heap.size W V
  q : QAt V kq A B room now xs ys
  c : OwnP V W.heap.size vc came
  t : OwnP V W.heap.size vt taken
  m : Gone V bm gone
  kb : W.heap.size ≤ kq
  bb : W.heap.size ≤ bm
  ck : vc.ownBlock ≠ some kq
  tk : vt.ownBlock ≠ some kq
  ct : ∀ b, vc.ownBlock = some b → vt.ownBlock ≠ some b
  lc : came.length ≤ i
  lt : taken.length ≤ i
theorem CSt.below' {W V V' : World} {kq bm : Nat} {A B room now : Int} {i : Nat} {vc vt : Value} {xs ys : List Ea.Item} {came taken : List Ea.Pkt} {gone : List Int} (h : CSt W V kq bm A B room now i vc vt xs ys came taken gone) (hb : Below V.heap.size V V') : CSt W V' kq bm A B room now i vc vt xs ys came taken gone :=
  ⟨below_on h.below hb, h.q.below hb, own_below8 h.c hb, own_below8 h.t hb, h.m.below hb, h.kb, h.bb, h.ck, h.tk, h.ct, h.lc, h.lt⟩
theorem CSt.added {W V V' : World} {kq bm : Nat} {A B room now : Int} {i : Nat} {vc vt : Value} {xs ys : List Ea.Item} {came taken : List Ea.Pkt} {gone gone' : List Int} (h : CSt W V kq bm A B room now i vc vt xs ys came taken gone) (hg : V.grownBy V' (some bm)) (hm : Gone V' bm gone') : CSt W V' kq bm A B room now i vc vt xs ys came taken gone' := by
  have hk := fun (ad : Addr) (u : Value) (hc : V.cell? ad = some u) => h.m.apart hc
  obtain ⟨g, go, lc, v0, s, a1, c1, a2, c2, h1, h2⟩ := h.q
  refine ⟨below_grown h.below hg (fun j hj => by injection hj with hj; have := h.bb; omega), ⟨g, go, lc, v0, s, a1, c1, a2, c2, h1.kept hg (fun e => hk _ _ (h1.cell 0 rfl) (by injection e)), h2.apart hg hk⟩, ?_, ?_, hm, h.kb, h.bb, h.ck, h.tk, h.ct, h.lc, h.lt⟩
  · refine World.ownsRow.kept h.c hg ?_
    cases hv : vc.ownBlock with
    | none => exact Or.inl rfl
    | some j => exact Or.inr (by rw [← hv]; exact h.m.own h.c)
  · refine World.ownsRow.kept h.t hg ?_
    cases hv : vt.ownBlock with
    | none => exact Or.inl rfl
    | some j => exact Or.inr (by rw [← hv]; exact h.m.own h.t)
/-- Behind a call, an append to one of the lists, and the store of the new queue. -/
theorem cst_next {W wr V V1 V2 V4 : World} {kq bm : Nat} {A B room now : Int} {i : Nat} {vc vt : Value} {xs ys : List Ea.Item} {came taken : List Ea.Pkt} {gone : List Int} (h : CSt W wr kq bm A B room now i vc vt xs ys came taken gone)
    {g : Nat} {a1 : Option Addr} {c1 : Nat} {a2 : Option Addr} {c2 : Nat} {v0' now' : Int} {s' : Nat} {xs' ys' : List Ea.Item} {l : Value} {drops : List Ea.Pkt}
    (hb : Below wr.heap.size wr V) (hqi : QIn V A B room g 15 v0' now' a1 xs'.length c1 xs' a2 ys'.length c2 ys') (t1 : RdT V a1 xs'.length xs') (t2 : RdT V a2 ys'.length ys') (hd : RdPk V l drops) (hf : FreshP wr g l)
    (hb1 : Below V.heap.size V V1) {r : Option Nat} (hx : V1.grownBy V2 r) (hr : r = none ∨ r = vc.ownBlock ∨ r = vt.ownBlock) (hs : V2.grownBy V4 (some kq)) (hq4 : Blk V4 kq (dqList A B room (some ⟨g, 15, none⟩) 2 v0' now' s'))
    {vc' vt' : Value} {came' taken' : List Ea.Pkt} (hc : OwnP V2 W.heap.size vc' came') (ht : OwnP V2 W.heap.size vt' taken') (hck : vc'.ownBlock ≠ some kq) (htk : vt'.ownBlock ≠ some kq) (hct : ∀ b, vc'.ownBlock = some b → vt'.ownBlock ≠ some b) (lc' : came'.length ≤ i + 1) (lt' : taken'.length ≤ i + 1) :
    CSt W V4 kq bm A B room now' (i + 1) vc' vt' xs' ys' came' taken' gone ∧ RdPk V4 l drops := by
  have hbw : Below wr.heap.size wr V1 := below_on hb hb1
  have hrow : ∀ b, r = some b → b < wr.heap.size ∧ b ≠ kq ∧ b ≠ bm ∧ W.heap.size ≤ b ∧ ∃ cs fr, V1.heap[b]? = some (.cells cs 30 fr) := fun b e => by
    have go : ∀ (v : Value) (zs : List Ea.Pkt), OwnP wr W.heap.size v zs → v.ownBlock ≠ some kq → v.ownBlock = some b → b < wr.heap.size ∧ b ≠ kq ∧ b ≠ bm ∧ W.heap.size ≤ b ∧ ∃ cs fr, V1.heap[b]? = some (.cells cs 30 fr) := fun v zs ho hk hv => by
      obtain ⟨z1, z2⟩ := ho.lt b hv
      obtain ⟨cs, fr, hcs⟩ := ho.typed hv
      refine ⟨z2, fun e => hk (by rw [hv, e]), fun e => h.m.own ho (by rw [hv, e]), z1, cs, fr, ?_⟩
      rw [hbw.block b z2]
      exact hcs
    rcases hr with hr | hr | hr
    · rw [hr] at e
      cases e
    · exact go vc came h.c h.ck (by rw [← hr]; exact e)
    · exact go vt taken h.t h.tk (by rw [← hr]; exact e)
  have hkq := h.q.lt
  have hbm := h.m.lt
  have hkb := h.kb
  obtain ⟨g0, go0, lc0, v00, s0, a10, c10, a20, c20, hq0, hqi0⟩ := h.q
  have hkm : kq ≠ bm := h.m.apart (hq0.cell 0 rfl)
  have hq2 := (hq0.below hbw).kept hx (fun e => (hrow _ e.symm).2.1 rfl)
  have hd1 := rdPk_below hd hb1
  have hd2 := rdPk_kept hd1 hx (fun ad n c e e2 => by have := hf.2 ad n c e; have := (hrow _ e2.symm).1; omega)
  have hd4 := rdPk_kept hd2 hs (fun ad n c e e2 => by have := hf.2 ad n c e; injection e2 with e2; omega)
  have hqv1 := hqi.below hb1
  have rows : ∀ b, r = some b → ∃ cs fr, V1.heap[b]? = some (.cells cs 30 fr) := fun b e => (hrow b e).2.2.2.2
  have tt : ∀ {a : Option Addr} {n : Nat} {zs : List Ea.Item}, RdT V a n zs → RdT V1 a n zs := fun ht => ⟨ht.1.below hb1, fun b e hn => by
    obtain ⟨cs, fr, hcs⟩ := ht.2 b e hn
    exact ⟨cs, fr, by rw [hb1.block _ (Array.getElem?_eq_some_iff.1 hcs).1]; exact hcs⟩⟩
  have hqv2 : QIn V2 A B room g 15 v0' now' a1 xs'.length c1 xs' a2 ys'.length c2 ys' := ⟨hx.cell hqv1.h1 (fun e => Nat.lt_irrefl g (Nat.lt_of_lt_of_le (hrow _ e.symm).1 hf.1)), hx.cell hqv1.h2 (fun e => Nat.lt_irrefl g (Nat.lt_of_lt_of_le (hrow _ e.symm).1 hf.1)), rdT_row (tt t1) hx rows, rdT_row (tt t2) hx rows, hqv1.ok⟩
  have hqv4 := hqv2.small hq2 (small_q rfl rfl rfl) hs
  refine ⟨⟨?_, ⟨g, 15, 2, v0', s', a1, c1, a2, c2, hq4, hqv4⟩, ?_, ?_, ?_, h.kb, h.bb, hck, htk, hct, lc', lt'⟩, hd4⟩
  · exact below_grown (below_grown (below_on h.below hbw) hx (fun j hj => (hrow j hj).2.2.2.1)) hs (fun j hj => by injection hj with hj; omega)
  · refine World.ownsRow.kept hc hs ?_
    cases hv : vc'.ownBlock with
    | none => exact Or.inl rfl
    | some j => exact Or.inr (by rw [← hv]; exact hck)
  · refine World.ownsRow.kept ht hs ?_
    cases hv : vt'.ownBlock with
    | none => exact Or.inl rfl
    | some j => exact Or.inr (by rw [← hv]; exact htk)
  · exact ((h.m.below hbw).kept hx (fun e => (hrow _ e.symm).2.2.1 rfl)).kept hs (fun e => hkm (by injection e with e; exact e.symm))
theorem own_none {V V' : World} {base : Nat} {v u : Value} {xs : List Ea.Pkt} (h : OwnP V base v xs) (hg : V.grownBy V' u.ownBlock) (hne : ∀ b, u.ownBlock = some b → v.ownBlock ≠ some b) : OwnP V' base v xs := by
  refine World.ownsRow.kept h hg ?_
  cases hv : v.ownBlock with
  | none => exact Or.inl rfl
  | some j => exact Or.inr (fun e => hne j e.symm hv)
/-- A packet was appended to those that came. -/
theorem cst_came {W wr V V1 V2 V4 : World} {kq bm : Nat} {A B room now : Int} {i : Nat} {vc vt : Value} {xs ys : List Ea.Item} {came taken : List Ea.Pkt} {gone : List Int} (h : CSt W wr kq bm A B room now i vc vt xs ys came taken gone)
    {g : Nat} {a1 : Option Addr} {c1 : Nat} {a2 : Option Addr} {c2 : Nat} {v0' now' : Int} {s' : Nat} {xs' ys' : List Ea.Item} {l : Value} {drops : List Ea.Pkt}
    (hb : Below wr.heap.size wr V) (hqi : QIn V A B room g 15 v0' now' a1 xs'.length c1 xs' a2 ys'.length c2 ys') (t1 : RdT V a1 xs'.length xs') (t2 : RdT V a2 ys'.length ys') (hd : RdPk V l drops) (hf : FreshP wr g l)
    (hb1 : Below V.heap.size V V1) {vc' : Value} {p : Ea.Pkt} (hx : V1.grownBy V2 vc.ownBlock) (hc : OwnP V2 W.heap.size vc' (came ++ [p])) (hat : vc'.ownBlock = vc.ownBlock ∨ vc'.ownBlock = some V1.heap.size) (hs : V2.grownBy V4 (some kq)) (hq4 : Blk V4 kq (dqList A B room (some ⟨g, 15, none⟩) 2 v0' now' s')) :
    CSt W V4 kq bm A B room now' (i + 1) vc' vt xs' ys' (came ++ [p]) taken gone ∧ RdPk V4 l drops := by
  have hbw : Below wr.heap.size wr V1 := below_on hb hb1
  have hz := hbw.size
  have hkq := h.q.lt
  refine cst_next h hb hqi t1 t2 hd hf hb1 hx (Or.inr (Or.inl rfl)) hs hq4 hc (own_none (own_below8 h.t hbw) hx h.ct) ?_ h.tk ?_ ?_ (Nat.le_succ_of_le h.lt)
  · rcases hat with e | e
    · rw [e]; exact h.ck
    · rw [e]; intro e2; injection e2 with e2; omega
  · intro b e e2
    rcases hat with e3 | e3
    · rw [e3] at e; exact h.ct b e e2
    · rw [e3] at e; injection e with e; have := (h.t.lt b e2).2; omega
  · have := h.lc
    rw [List.length_append, List.length_singleton]
    omega
/-- A packet was appended to those that were taken. -/
theorem cst_taken {W wr V V1 V2 V4 : World} {kq bm : Nat} {A B room now : Int} {i : Nat} {vc vt : Value} {xs ys : List Ea.Item} {came taken : List Ea.Pkt} {gone : List Int} (h : CSt W wr kq bm A B room now i vc vt xs ys came taken gone)
    {g : Nat} {a1 : Option Addr} {c1 : Nat} {a2 : Option Addr} {c2 : Nat} {v0' now' : Int} {s' : Nat} {xs' ys' : List Ea.Item} {l : Value} {drops : List Ea.Pkt}
    (hb : Below wr.heap.size wr V) (hqi : QIn V A B room g 15 v0' now' a1 xs'.length c1 xs' a2 ys'.length c2 ys') (t1 : RdT V a1 xs'.length xs') (t2 : RdT V a2 ys'.length ys') (hd : RdPk V l drops) (hf : FreshP wr g l)
    (hb1 : Below V.heap.size V V1) {vt' : Value} {p : Ea.Pkt} (hx : V1.grownBy V2 vt.ownBlock) (hc : OwnP V2 W.heap.size vt' (taken ++ [p])) (hat : vt'.ownBlock = vt.ownBlock ∨ vt'.ownBlock = some V1.heap.size) (hs : V2.grownBy V4 (some kq)) (hq4 : Blk V4 kq (dqList A B room (some ⟨g, 15, none⟩) 2 v0' now' s')) :
    CSt W V4 kq bm A B room now' (i + 1) vc vt' xs' ys' came (taken ++ [p]) gone ∧ RdPk V4 l drops := by
  have hbw : Below wr.heap.size wr V1 := below_on hb hb1
  have hz := hbw.size
  have hkq := h.q.lt
  refine cst_next h hb hqi t1 t2 hd hf hb1 hx (Or.inr (Or.inr rfl)) hs hq4 (own_none (own_below8 h.c hbw) hx (fun b e e2 => h.ct b e2 e)) hc h.ck ?_ ?_ (Nat.le_succ_of_le h.lc) ?_
  · rcases hat with e | e
    · rw [e]; exact h.tk
    · rw [e]; intro e2; injection e2 with e2; omega
  · intro b e e2
    rcases hat with e3 | e3
    · rw [e3] at e2; exact h.ct b e e2
    · rw [e3] at e2; injection e2 with e2; have := (h.c.lt b e).2; omega
  · have := h.lt
    rw [List.length_append, List.length_singleton]
    omega
/-- None was appended. -/
theorem cst_same {W wr V V1 V4 : World} {kq bm : Nat} {A B room now : Int} {i : Nat} {vc vt : Value} {xs ys : List Ea.Item} {came taken : List Ea.Pkt} {gone : List Int} (h : CSt W wr kq bm A B room now i vc vt xs ys came taken gone)
    {g : Nat} {a1 : Option Addr} {c1 : Nat} {a2 : Option Addr} {c2 : Nat} {v0' now' : Int} {s' : Nat} {xs' ys' : List Ea.Item} {l : Value} {drops : List Ea.Pkt}
    (hb : Below wr.heap.size wr V) (hqi : QIn V A B room g 15 v0' now' a1 xs'.length c1 xs' a2 ys'.length c2 ys') (t1 : RdT V a1 xs'.length xs') (t2 : RdT V a2 ys'.length ys') (hd : RdPk V l drops) (hf : FreshP wr g l)
    (hb1 : Below V.heap.size V V1) (hs : V1.grownBy V4 (some kq)) (hq4 : Blk V4 kq (dqList A B room (some ⟨g, 15, none⟩) 2 v0' now' s')) :
    CSt W V4 kq bm A B room now' (i + 1) vc vt xs' ys' came taken gone ∧ RdPk V4 l drops := by
  have hbw : Below wr.heap.size wr V1 := below_on hb hb1
  exact cst_next h hb hqi t1 t2 hd hf hb1 (World.grownBy.refl V1 none) (Or.inl rfl) hs hq4 (own_below8 h.c hbw) (own_below8 h.t hbw) h.ck h.tk h.ct (Nat.le_succ_of_le h.lc) (Nat.le_succ_of_le h.lt)
/-- The next number that is struck is not among those struck before. -/
theorem drop_fresh {gone : List Int} {drops : List Ea.Pkt} (h1 : ∀ d ∈ drops, d.number ∉ gone) (h2 : drops.Pairwise (fun p q => p.number ≠ q.number)) {j : Nat} (hj : j < drops.length) : (gone ++ Du.nums (drops.take j)).contains (drops.getD j default).number = false := by
  have e : drops.getD j default = drops[j] := by rw [List.getD_eq_getElem?_getD, List.getElem?_eq_getElem hj]; rfl
  rw [e]
  have h3 : drops[j].number ∉ gone := h1 _ (List.getElem_mem hj)
  have h4 : drops[j].number ∉ Du.nums (drops.take j) := fun hm => by
    obtain ⟨d, hd, hn⟩ := List.mem_map.1 hm
    obtain ⟨k, hk, rfl⟩ := List.mem_take_iff_getElem.1 hd
    exact List.pairwise_iff_getElem.1 h2 k j (by omega) hj (by omega) hn
  simp [h3, h4]
theorem nums_snoc {drops : List Ea.Pkt} {j : Nat} (hj : j < drops.length) : Du.nums (drops.take (j + 1)) = Du.nums (drops.take j) ++ [(drops.getD j default).number] := by
  have e : drops.getD j default = drops[j] := by rw [List.getD_eq_getElem?_getD, List.getElem?_eq_getElem hj]; rfl
  rw [e, List.take_add_one, List.getElem?_eq_getElem hj]
  unfold Du.nums
  rw [List.map_append]
  rfl
end Go.Proofs.YtdecclklenaoaaaDoor
