/- The state of EarlyConserves between its calls. -/
import Derived.Test.YtfeemiamjmmolaaDoorEaSame
import Derived.Test.YtfeemiamjmmolaaDoorEaPk
import Derived.Test.YtfeemiamjmmolaaDoorEaState
import Derived.Maps.AppendAt
import Derived.Great.BuildSlice
import Derived.OneCell
namespace Go.Proofs.YtfeemiamjmmolaaDoor
open Go.RowKit

theorem run_build_pkt (p : Ea.Pkt) (w : World) : (Instr.buildSlice 32 1 #[(0, pktVal p)]).run Tryd.prog w = .ok (.slice (some ⟨w.heap.size, 0, none⟩) 1 1) (w.alloc (.cells (pktList p).toArray 35)) := by
  obtain ⟨i0, hi, hz0, hz1, hz2⟩ := info_parts info_pkt
  exact run_buildSlice w 32 35 1 _ (pktList p).toArray i0 _ Tryd.underlying32 hi hz0 (by rw [hz1]; decide) (by rw [hz1]; decide) (by rw [hz1]; first | kernel_rfl | (simp [Instr.fill, Value.cells]; done) | (simp [Instr.fill, Value.cells, Array.range]; rfl))
theorem wp_build_pkt {o : Oper} {a : Act} {w : World} {K : Act → World → Prop} {Q : Exit → Act → World → Prop} (x : Operand) (ho : o.op = .buildSlice 32 1 #[(0, x)]) (p : Ea.Pkt) (hx : a.eval x = pktVal p)
    (h : K (a.put o.dst (.slice (some ⟨w.heap.size, 0, none⟩) 1 1)) (w.alloc (.cells (pktList p).toArray 35))) : o.wp Tryd.prog a w K Q := by
  unfold Oper.wp execOp
  simp only [ho, Sem.run_bind, List.map_toArray, List.map_cons, List.map_nil, hx, run_build_pkt, Result.andThen_ok]
  exact h
theorem wpList_build_pkt {ops : Array Oper} {rest : List Oper} {o : Oper} {a : Act} {w : World} {Q : Exit → Act → World → Prop} (hgd : o.guard = none) (x : Operand) (ho : o.op = .buildSlice 32 1 #[(0, x)]) (p : Ea.Pkt) (hx : a.eval x = pktVal p)
    (h : wpList Tryd.prog ops Q rest (a.put o.dst (.slice (some ⟨w.heap.size, 0, none⟩) 1 1)) (w.alloc (.cells (pktList p).toArray 35))) : wpList Tryd.prog ops Q (o :: rest) a w :=
  wpList_plain hgd fun _ hK => wp_build_pkt x ho p hx (hK _ _ h)
/-- One packet more, and where the list lies then. -/
theorem wpList_add_pkt_at {ops : Array Oper} {rest : List Oper} {o : Oper} {a : Act} {w : World} {Q : Exit → Act → World → Prop} {v : Value} {base : Nat} {xs : List Ea.Pkt} (hgd : o.guard = none) (s x : Operand) (ho : o.op = .call { callee := .builtin .append, args := #[s, x], argTypes := #[32, 32] })
    (hs : a.eval s = v) (hk : OwnP w base v xs) (hbase : base ≤ w.heap.size) (b of : Nat) (p : Ea.Pkt) (hx : a.eval x = .slice (some ⟨b, of, none⟩) 1 1) (hr : w.rangeAt b of (pktList p)) (hn : xs.length ≤ 2000)
    (h : ∀ v' V, OwnP V base v' (xs ++ [p]) → w.grownBy V v.ownBlock → (v'.ownBlock = v.ownBlock ∨ v'.ownBlock = some w.heap.size) → wpList Tryd.prog ops Q rest (a.put o.dst v') V) : wpList Tryd.prog ops Q (o :: rest) a w := by
  obtain ⟨i0, hi, hz0, hz1, hz2⟩ := info_parts info_pkt
  refine wpList_append_own_at w hgd s x 32 ho base 35 i0 _ 8 56 Tryd.underlying32 hi hz0 hz1 hz2 rfl (by decide) v xs.length (flatP xs) hs hk ⟨b, of, none⟩ 1 1 (pktList p) hx rfl (fun j u hj => by rw [Addr.add_mid]; exact hr j u hj) (pktList_one p) (by unfold maxLen; omega) (by omega) hbase ?_
  intro v' V h1 h2 _ h3
  rw [← flatP_snoc] at h1
  exact h v' V (by unfold OwnP; rw [List.length_append]; exact h1) h2 h3
theorem owns_mono8 {w : World} {b b' e n : Nat} {v : Value} {xs : List Value} (h : w.ownsRow b e 8 v n xs) (hb : b' ≤ b) : w.ownsRow b' e 8 v n xs :=
  ⟨h.1, h.2.imp (fun h => h) (fun ⟨g, cap, cur, h1, h2, h3⟩ => ⟨g, cap, cur, h1, Nat.le_trans hb h2, h3⟩)⟩
/-- A block in which no list of packets can lie, nor a pair. -/
def Small (cs : List Value) : Prop := cs.length ≤ 15 ∧ ∀ (o : Nat) (x : Ea.Item), (∀ (j : Nat) (v : Value), (itemList x)[j]? = some v → cs[o + j]? = some v) → False
theorem item_cell (x : Ea.Item) (j : Nat) (hj : j < 9) : (∃ z, (itemList x)[j]? = some (.int .i64 z)) ∨ ∃ b, (itemList x)[j]? = some (.bool b) := by
  match j, hj with
  | 0, _ => exact Or.inl ⟨_, rfl⟩
  | 1, _ => exact Or.inl ⟨_, rfl⟩
  | 2, _ => exact Or.inl ⟨_, rfl⟩
  | 3, _ => exact Or.inl ⟨_, rfl⟩
  | 4, _ => exact Or.inl ⟨_, rfl⟩
  | 5, _ => exact Or.inl ⟨_, rfl⟩
  | 6, _ => exact Or.inr ⟨_, rfl⟩
  | 7, _ => exact Or.inr ⟨_, rfl⟩
  | 8, _ => exact Or.inl ⟨_, rfl⟩
theorem small_q {cs : List Value} {a : Option Addr} {n c : Nat} {zs : Int} (hl : cs.length = 15) (h5' : cs[5]? = some (.slice a n c)) (h14' : cs[14]? = some (.int .u64 zs)) : Small cs := ⟨Nat.le_of_eq hl, fun o x h => by
  have go : ∀ k, o ≤ k → k - o < 9 → (∃ z, cs[k]? = some (.int .i64 z)) ∨ ∃ b, cs[k]? = some (.bool b) := fun k h1 h2 => by
    rcases item_cell x (k - o) h2 with ⟨z, hz⟩ | ⟨z, hz⟩
    · exact Or.inl ⟨z, by have := h _ _ hz; rwa [show o + (k - o) = k by omega] at this⟩
    · exact Or.inr ⟨z, by have := h _ _ hz; rwa [show o + (k - o) = k by omega] at this⟩
  by_cases h5 : o ≤ 5
  · rcases go 5 h5 (by omega) with ⟨z, hz⟩ | ⟨z, hz⟩
    · rw [h5'] at hz; injection hz with hz; cases hz
    · rw [h5'] at hz; injection hz with hz; cases hz
  · by_cases h14 : o ≤ 14
    · rcases go 14 h14 (by omega) with ⟨z, hz⟩ | ⟨z, hz⟩
      · rw [h14'] at hz; injection hz with hz; cases hz
      · rw [h14'] at hz; injection hz with hz; cases hz
    · have := h 0 _ rfl
      rw [List.getElem?_eq_none (by omega)] at this
      cases this⟩
theorem row_small {V : World} {a : Option Addr} {n : Nat} {xs : List Ea.Item} {k : Nat} {cs : List Value} (h : RdQ V a n xs) (hn : 0 < n) (hb : Blk V k cs) (hc : Small cs) {ad : Addr} (e : a = some ad) : ad.block ≠ k := by
  intro e2
  subst e2
  obtain ⟨b, o, e3, hr⟩ := h.2 0 hn
  rw [e] at e3
  injection e3 with e3
  subst e3
  refine hc.2 o (xs.getD 0 default) (fun j v hv => ?_)
  have h1 := hr j v hv
  rw [Nat.zero_mul, Nat.add_zero] at h1
  obtain ⟨t, ht⟩ := hb
  simp only [World.cell?] at h1
  simp only at ht
  rw [ht] at h1
  simpa using h1
theorem rdT_small {V V' : World} {a : Option Addr} {n : Nat} {xs : List Ea.Item} {k : Nat} {cs : List Value} (h : RdT V a n xs) (hb : Blk V k cs) (hc : Small cs) (hg : V.grownBy V' (some k)) : RdT V' a n xs := by
  rcases Nat.eq_zero_or_pos n with h0 | h0
  · exact rdT_nil h0 h.1.1
  · have hne : ∀ ad, a = some ad → some ad.block ≠ some k := fun ad e e2 => row_small h.1 h0 hb hc e (by injection e2)
    refine ⟨h.1.kept hg hne, fun b e _ => ?_⟩
    obtain ⟨cs', fr, hcs⟩ := h.2 b e h0
    exact ⟨cs', fr, by rw [hg.block _ (Array.getElem?_eq_some_iff.1 hcs).1 (hne b e)]; exact hcs⟩
theorem OwnP.typed {V : World} {base : Nat} {v : Value} {xs : List Ea.Pkt} (h : OwnP V base v xs) {g : Nat} (e : v.ownBlock = some g) : ∃ cs fr, V.heap[g]? = some (.cells cs 35 fr) := by
  rcases h.2 with ⟨rfl, _⟩ | ⟨g', cap, cur, rfl, _, hg, _⟩
  · simp [Value.ownBlock] at e
  · have e2 : g' = g := by simpa [Value.ownBlock] using e
    subst e2
    exact ⟨_, _, hg⟩
theorem rdT_row {V V' : World} {a : Option Addr} {n : Nat} {xs : List Ea.Item} {r : Option Nat} (h : RdT V a n xs) (hg : V.grownBy V' r) (hr : ∀ b, r = some b → ∃ cs fr, V.heap[b]? = some (.cells cs 35 fr)) : RdT V' a n xs := by
  have apart : ∀ b, a = some b → 0 < n → some b.block ≠ r := fun b e hn e2 => by
    obtain ⟨cs, fr, hcs⟩ := h.2 b e hn
    obtain ⟨cs', fr', hcs'⟩ := hr b.block e2.symm
    rw [hcs] at hcs'
    injection hcs' with hcs'
    injection hcs' with _ ht _
    exact absurd ht (by decide)
  rcases Nat.eq_zero_or_pos n with h0 | h0
  · exact rdT_nil h0 h.1.1
  · refine ⟨h.1.kept hg (fun b e => apart b e h0), fun b e hn => ?_⟩
    obtain ⟨cs, fr, hcs⟩ := h.2 b e hn
    exact ⟨cs, fr, by rw [hg.block _ (Array.getElem?_eq_some_iff.1 hcs).1 (apart b e hn)]; exact hcs⟩
theorem own_none {V V' : World} {base : Nat} {v u : Value} {xs : List Ea.Pkt} (h : OwnP V base v xs) (hg : V.grownBy V' u.ownBlock) (hne : ∀ b, u.ownBlock = some b → v.ownBlock ≠ some b) : OwnP V' base v xs := by
  refine World.ownsRow.kept h hg ?_
  cases hv : v.ownBlock with
  | none => exact Or.inl rfl
  | some j => exact Or.inr (fun e => hne j e.symm hv)
/-- A cell of a row of the call's own is written. -/
theorem owns_set {w : World} {base : Nat} {e : TypeId} {size g n c : Nat} {xs : List Value} (h : w.ownsRow base e size (.slice (some ⟨g, 0, none⟩) n c) n xs) (k : Nat) (u : Value) : (w.setCell ⟨g, k, none⟩ u).ownsRow base e size (.slice (some ⟨g, 0, none⟩) n c) n (xs.set k u) := by
  obtain ⟨h1, h2⟩ := h
  refine ⟨by rw [List.length_set]; exact h1, ?_⟩
  rcases h2 with ⟨hv, _⟩ | ⟨g', cap, cur, hv, hb, hg, hn, hm, hc, ht⟩
  · injection hv with hv
    cases hv
  · injection hv with e1 _ e3
    injection e1 with e1
    injection e1 with e1
    subst e1 e3
    have hl := (Array.getElem?_eq_some_iff.1 hg).1
    refine Or.inr ⟨_, _, cur.set! k u, rfl, hb, ?_, hn, hm, by simpa using hc, ?_⟩
    · show (w.heap.modify g _)[g]? = _
      rw [Array.getElem?_modify, if_pos rfl, hg]
      simp
    · rw [← ht]
      simp [List.take_set]
/-- A mark is struck. -/
theorem OwnP.mark {W : World} {base g c : Nat} {xs : List Ea.Pkt} (h : OwnP W base (.slice (some ⟨g, 0, none⟩) xs.length c) xs) {i : Nat} (hi : i < xs.length) (b : Bool) : OwnP (W.setCell ⟨g, i * 8 + 7, none⟩ (.bool b)) base (.slice (some ⟨g, 0, none⟩) xs.length c) (xs.set i { xs.getD i default with marked := b }) := by
  have := owns_set h (i * 8 + 7) (.bool b)
  rw [flatP_set xs i hi b] at this
  unfold OwnP
  rw [List.length_set]
  exact this
/-- A queue's list in memory that was there before. -/
def HoldsC (m : Nat) (V : World) (ad : Addr) (xs : List Ea.Item) : Prop := ad.block < m ∧ ∃ a c, V.cell? ad = some (.slice a xs.length c) ∧ RdQ V a xs.length xs ∧ ∀ b, a = some b → 0 < xs.length → b.block < m
theorem HoldsC.kept {m : Nat} {V V' : World} {ad : Addr} {xs : List Ea.Item} (h : HoldsC m V ad xs) {r : Option Nat} (hg : V.grownBy V' r) (hr : ∀ b, r = some b → m ≤ b) : HoldsC m V' ad xs := by
  obtain ⟨h0, a, c, h1, h2, h3⟩ := h
  refine ⟨h0, a, c, hg.cell h1 (fun e => by have := hr _ e.symm; omega), ?_, h3⟩
  rcases Nat.eq_zero_or_pos xs.length with hz | hz
  · rw [hz] at h2 ⊢
    exact ⟨h2.1, fun i hi => absurd hi (Nat.not_lt_zero i)⟩
  · exact h2.kept hg (fun b e e2 => by have := hr _ e2.symm; have := h3 b e hz; omega)
theorem HoldsC.holds {m : Nat} {V : World} {ad : Addr} {xs : List Ea.Item} (h : HoldsC m V ad xs) : HoldsL V ad xs := by
  obtain ⟨_, a, c, h1, h2, _⟩ := h
  exact ⟨a, c, h1, h2⟩
theorem holdsC_of {W V : World} {ad : Addr} (hL : RdLs W (some ad) 1) (hB : Below W.heap.size W V) {a : Option Addr} {n c : Nat} {xs : List Ea.Item} (hc : V.cell? ad = some (.slice a n c)) (hr : RdQ V a n xs) (hn : xs.length = n) : HoldsC W.heap.size V ad xs := by
  subst hn
  obtain ⟨ad', a', n', c', xs', e, hc', hr', _⟩ := hL 0 (by omega)
  injection e with e
  subst e
  have hc2 : W.cell? ad = some (.slice a' n' c') := hc'
  have hc3 := below_cell_of hB hc2
  rw [hc] at hc3
  injection hc3 with hc3
  injection hc3 with e1 e2 e3
  subst e1 e3
  refine ⟨World.block_lt_of_cell? _ _ hc2, a, c, hc, hr, fun b e hz => ?_⟩
  obtain ⟨b', o', e4, hx⟩ := hr'.2 0 (by omega)
  rw [e] at e4
  injection e4 with e4
  subst e4
  exact World.block_lt_of_cell? _ _ (hx 0 _ rfl)
/-- The queue that lies in block kq: its list is that of the caller, or of memory of its own type. -/
def EAt (W V : World) (kq : Nat) (A B C room now : Int) (xs : List Ea.Item) : Prop :=
  ∃ ad lc v0 v7, ∃ s : Nat, Blk V kq (qList A B C room (some ad) 1 lc v0 v7 (s : Int)) ∧ (HoldsC W.heap.size V ad xs ∨ ∃ g, ad = ⟨g, 0, none⟩ ∧ HoldsT V ad xs) ∧ QOk A B C room v0 v7 xs ∧ v7 ≤ now
theorem HoldsT.below {w V : World} {ad : Addr} {xs : List Ea.Item} (h : HoldsT w ad xs) (hb : Below w.heap.size w V) : HoldsT V ad xs := by
  obtain ⟨a, c, h1, h2⟩ := h
  refine ⟨a, c, below_cell_of hb h1, h2.1.below hb, fun b e hn => ?_⟩
  obtain ⟨cs, fr, hcs⟩ := h2.2 b e hn
  exact ⟨cs, fr, by rw [hb.block _ (Array.getElem?_eq_some_iff.1 hcs).1]; exact hcs⟩
theorem EAt.below {W V V' : World} {kq : Nat} {A B C room now : Int} {xs : List Ea.Item} (h : EAt W V kq A B C room now xs) (hb : Below V.heap.size V V') : EAt W V' kq A B C room now xs := by
  obtain ⟨ad, lc, v0, v7, s, h1, h2, h3, h4⟩ := h
  refine ⟨ad, lc, v0, v7, s, h1.below hb, ?_, h3, h4⟩
  rcases h2 with h2 | ⟨g, rfl, h2⟩
  · exact Or.inl (h2.kept (grown_below hb none) (fun b e => by cases e))
  · exact Or.inr ⟨g, rfl, h2.below hb⟩
structure ESt (W V : World) (A B C room now : Int) (vc vw : Value) (xs : List Ea.Item) (came went : List Ea.Pkt) : Prop where
  below : Below W.heap.size W V
  q : EAt W V W.heap.size A B C room now xs
  c : OwnP V (W.heap.size + 1) vc came
  t : OwnP V (W.heap.size + 1) vw went
  ct : ∀ b, vc.ownBlock = some b → vw.ownBlock ≠ some b
  cn : vc.ownBlock = none ∨ 0 < came.length
  tn : vw.ownBlock = none ∨ 0 < went.length
theorem ESt.below' {W V V' : World} {A B C room now : Int} {vc vw : Value} {xs : List Ea.Item} {came went : List Ea.Pkt} (h : ESt W V A B C room now vc vw xs came went) (hb : Below V.heap.size V V') : ESt W V' A B C room now vc vw xs came went :=
  ⟨below_on h.below hb, h.q.below hb, own_below8 h.c hb, own_below8 h.t hb, h.ct, h.cn, h.tn⟩
/-- Nothing but the time has changed. -/
theorem ESt.later {W V : World} {A B C room now now' : Int} {vc vw : Value} {xs : List Ea.Item} {came went : List Ea.Pkt} (h : ESt W V A B C room now vc vw xs came went) (hn : now ≤ now') : ESt W V A B C room now' vc vw xs came went := by
  obtain ⟨ad, lc, v0, v7, s, h1, h2, h3, h4⟩ := h.q
  exact ⟨h.below, ⟨ad, lc, v0, v7, s, h1, h2, h3, Int.le_trans h4 hn⟩, h.c, h.t, h.ct, h.cn, h.tn⟩
/-- What a row of packets is. -/
theorem row_facts {V : World} {base : Nat} {v : Value} {zs : List Ea.Pkt} (ho : OwnP V base v zs) (hn : v.ownBlock = none ∨ 0 < zs.length) {b : Nat} (hv : v.ownBlock = some b) : b < V.heap.size ∧ base ≤ b ∧ (∃ z, V.cell? ⟨b, 0, none⟩ = some (.int .i64 z)) ∧ ∃ cs fr, V.heap[b]? = some (.cells cs 35 fr) := by
  obtain ⟨z1, z2⟩ := ho.lt b hv
  have ht := ho.typed hv
  have hz : 0 < zs.length := by
    rcases hn with e | e
    · rw [e] at hv; cases hv
    · exact e
  obtain ⟨g', c', rfl, _, _, hrr⟩ := OwnP.at ho 0 hz
  have eg : g' = b := by simpa [Value.ownBlock] using hv
  subst eg
  refine ⟨z2, z1, ⟨(zs.getD 0 default).flow, ?_⟩, ht⟩
  have h0 := hrr 0 _ rfl
  rw [Nat.zero_mul, Nat.zero_add] at h0
  exact h0
theorem holdsT_grow {V V' : World} {g base : Nat} {xs : List Ea.Item} {v : Value} {zs : List Ea.Pkt} (h : HoldsT V ⟨g, 0, none⟩ xs) (ho : OwnP V base v zs) (hn : v.ownBlock = none ∨ 0 < zs.length) (hg : V.grownBy V' v.ownBlock) : HoldsT V' ⟨g, 0, none⟩ xs := by
  obtain ⟨a, c, h1, h2⟩ := h
  refine ⟨a, c, hg.cell h1 (fun e => ?_), rdT_row h2 hg (fun b e => (row_facts ho hn e).2.2.2)⟩
  obtain ⟨_, _, ⟨z, hz⟩, _⟩ := row_facts ho hn e.symm
  rw [h1] at hz
  cases hz
theorem EAt.grow {W V V' : World} {A B C room now : Int} {xs : List Ea.Item} {v : Value} {zs : List Ea.Pkt} (h : EAt W V W.heap.size A B C room now xs) (ho : OwnP V (W.heap.size + 1) v zs) (hn : v.ownBlock = none ∨ 0 < zs.length) (hg : V.grownBy V' v.ownBlock) : EAt W V' W.heap.size A B C room now xs := by
  obtain ⟨ad, lc, v0, v7, s, h1, h2, h3, h4⟩ := h
  refine ⟨ad, lc, v0, v7, s, h1.kept hg (fun e => by have := (row_facts ho hn e.symm).2.1; omega), ?_, h3, h4⟩
  rcases h2 with h2 | ⟨g, rfl, h2⟩
  · exact Or.inl (h2.kept hg (fun b e => by have := (row_facts ho hn e).2.1; omega))
  · exact Or.inr ⟨g, rfl, holdsT_grow h2 ho hn hg⟩
/-- The queue's list, as it stands. -/
theorem ESt.open {W V : World} {A B C room now : Int} {vc vw : Value} {xs : List Ea.Item} {came went : List Ea.Pkt} (h : ESt W V A B C room now vc vw xs came went) : ∃ ad lc v0 v7, ∃ s : Nat, Blk V W.heap.size (qList A B C room (some ad) 1 lc v0 v7 (s : Int)) ∧ HoldsL V ad xs ∧ QOk A B C room v0 v7 xs ∧ v7 ≤ now := by
  obtain ⟨ad, lc, v0, v7, s, h1, h2, h3, h4⟩ := h.q
  refine ⟨ad, lc, v0, v7, s, h1, ?_, h3, h4⟩
  rcases h2 with h2 | ⟨g, rfl, h2⟩
  · exact h2.holds
  · exact h2.holds
/-- The queue's own clock. -/
theorem ESt.clock {W V : World} {A B C room now : Int} {vc vw : Value} {xs : List Ea.Item} {came went : List Ea.Pkt} (h : ESt W V A B C room now vc vw xs came went) : ∃ v7, ESt W V A B C room v7 vc vw xs came went ∧ V.cell? ⟨W.heap.size, 13, none⟩ = some (.int .i64 v7) ∧ 0 ≤ v7 ∧ v7 ≤ 10000000 := by
  obtain ⟨ad, lc, v0, v7, s, h1, h2, h3, h4⟩ := h.q
  exact ⟨v7, ⟨h.below, ⟨ad, lc, v0, v7, s, h1, h2, h3, Int.le_refl _⟩, h.c, h.t, h.ct, h.cn, h.tn⟩, h1.cell 13 rfl, h3.t0, h3.t1⟩
/-- A packet more among those that came. -/
theorem ESt.came {W V V' : World} {A B C room now : Int} {vc vw : Value} {xs : List Ea.Item} {came went : List Ea.Pkt} (h : ESt W V A B C room now vc vw xs came went) {vc' : Value} {p : Ea.Pkt} (hx : V.grownBy V' vc.ownBlock) (hc : OwnP V' (W.heap.size + 1) vc' (came ++ [p])) (hat : vc'.ownBlock = vc.ownBlock ∨ vc'.ownBlock = some V.heap.size) : ESt W V' A B C room now vc' vw xs (came ++ [p]) went := by
  refine ⟨below_grown h.below hx (fun j hj => by have := (h.c.lt j hj).1; omega), h.q.grow h.c h.cn hx, hc, own_none h.t hx h.ct, ?_, Or.inr (by simp), h.tn⟩
  intro b e e2
  rcases hat with e3 | e3
  · rw [e3] at e; exact h.ct b e e2
  · rw [e3] at e; injection e with e; have := (h.t.lt b e2).2; omega
/-- A packet more among those that went. -/
theorem ESt.went {W V V' : World} {A B C room now : Int} {vc vw : Value} {xs : List Ea.Item} {came went : List Ea.Pkt} (h : ESt W V A B C room now vc vw xs came went) {vw' : Value} {p : Ea.Pkt} (hx : V.grownBy V' vw.ownBlock) (hc : OwnP V' (W.heap.size + 1) vw' (went ++ [p])) (hat : vw'.ownBlock = vw.ownBlock ∨ vw'.ownBlock = some V.heap.size) : ESt W V' A B C room now vc vw' xs came (went ++ [p]) := by
  refine ⟨below_grown h.below hx (fun j hj => by have := (h.t.lt j hj).1; omega), h.q.grow h.t h.tn hx, own_none h.c hx (fun b e e2 => h.ct b e2 e), hc, ?_, h.cn, Or.inr (by simp)⟩
  intro b e e2
  rcases hat with e3 | e3
  · rw [e3] at e2; exact h.ct b e e2
  · rw [e3] at e2; injection e2 with e2; have := (h.c.lt b e).2; omega
theorem holdsT_small {V V' : World} {g k : Nat} {cs : List Value} {z : Int} {xs : List Ea.Item} (h : HoldsT V ⟨g, 0, none⟩ xs) (hb : Blk V k cs) (h0 : cs[0]? = some (.int .i64 z)) (hc : Small cs) (hg : V.grownBy V' (some k)) : HoldsT V' ⟨g, 0, none⟩ xs := by
  obtain ⟨a, c, h1, h2⟩ := h
  have hgk : g ≠ k := fun e => by
    subst e
    have h3 := hb.cell 0 h0
    rw [h1] at h3
    cases h3
  exact ⟨a, c, hg.cell h1 (fun e => hgk (by injection e)), rdT_small h2 hb hc hg⟩
/-- The new queue is stored. -/
theorem ESt.store {W V V' : World} {A B C room now : Int} {vc vw : Value} {xs : List Ea.Item} {came went : List Ea.Pkt} (h : ESt W V A B C room now vc vw xs came went) {g : Nat} {v0' now' : Int} {s' : Nat} {xs' : List Ea.Item} (hh : HoldsT V ⟨g, 0, none⟩ xs') (hok : QOk A B C room v0' now' xs') (hs : V.grownBy V' (some W.heap.size)) (hq : Blk V' W.heap.size (qList A B C room (some ⟨g, 0, none⟩) 1 1 v0' now' (s' : Int))) : ESt W V' A B C room now' vc vw xs' came went := by
  obtain ⟨ad0, lc0, v00, v70, s0, hq0, _, _, _⟩ := h.q
  obtain ⟨a, c, h1, h2⟩ := hh
  have hgk : g ≠ W.heap.size := fun e => by
    subst e
    have h0 := hq0.cell 0 rfl
    rw [h1] at h0
    cases h0
  have away : ∀ (v : Value) (zs : List Ea.Pkt), OwnP V (W.heap.size + 1) v zs → OwnP V' (W.heap.size + 1) v zs := fun v zs ho => by
    refine World.ownsRow.kept ho hs ?_
    cases hv : v.ownBlock with
    | none => exact Or.inl rfl
    | some j => exact Or.inr (fun e => by injection e with e; have := (ho.lt j hv).1; omega)
  exact ⟨below_grown h.below hs (fun j hj => by injection hj with hj; omega), ⟨_, 1, v0', now', s', hq, Or.inr ⟨g, rfl, a, c, hs.cell h1 (fun e => hgk (by injection e)), rdT_small h2 hq0 (small_q rfl rfl rfl) hs⟩, hok, Int.le_refl _⟩, away _ _ h.c, away _ _ h.t, h.ct, h.cn, h.tn⟩
/-- Take, piece by piece. -/
theorem take_t (A B C room : Int) (ad : Addr) (lc : Nat) (v0 v7 : Int) (seed : Int) (xs : List Ea.Item) (w : World) (hl : HoldsL w ad xs) (hq : QOk A B C room v0 v7 xs) (now : Int) (h0 : v7 ≤ now) (h1 : now ≤ 10000000) (p : Ea.Pkt) (is : Bool) (rest : List Ea.Item) (e1 : (xs.getD 0 default).p = p) (e2 : decide (0 < xs.length) = is) (e3 : xs.drop 1 = rest) :
    Calls Tryd.prog 11 #[.agg (qList A B C room (some ad) 1 lc v0 v7 seed).toArray, .int .i64 now] w fun e V => ∃ g, e = .returned (.tuple #[.agg (qList A B C room (some ⟨g, 0, none⟩) 1 1 v0 now seed).toArray, pktVal p, .bool is, .slice none 0 0, .int .i64 0]) ∧ Below w.heap.size w V ∧ HoldsT V ⟨g, 0, none⟩ rest := by
  subst e1 e2 e3
  exact take_anyT A B C room ad lc v0 v7 seed xs w hl hq now h0 h1
/-- Put, piece by piece. -/
theorem put_t (A B C room : Int) (ad : Addr) (lc : Nat) (v0 v7 : Int) (s : Nat) (xs : List Ea.Item) (w : World) (hl : HoldsL w ad xs) (hq : QOk A B C room v0 v7 xs) (ht : Table w) (p : Ea.Pkt) (hp : p.ok) (now : Int) (h0 : v7 ≤ now) (h1 : now ≤ 10000000) (what : Int) (s1 : Nat) (hv : Ea.verdict A B xs.length room (Ea.avg v0 xs.length (2 ^ C.toNat)) s = (what, s1)) (v1 : Int) (xs' : List Ea.Item) (e1 : Ea.avg v0 xs.length (2 ^ C.toNat) = v1) (e2 : Ea.stays xs p now what = xs') :
    Calls Tryd.prog 13 #[.agg (qList A B C room (some ad) 1 lc v0 v7 (s : Int)).toArray, pktVal p, .int .i64 now] w fun e V => ∃ g out, e = .returned (.tuple #[.agg (qList A B C room (some ⟨g, 0, none⟩) 1 1 v1 now (s1 : Int)).toArray, out, .int .i64 0]) ∧ Below w.heap.size w V ∧ HoldsT V ⟨g, 0, none⟩ xs' := by
  subst e1 e2
  refine (put_anyT A B C room ad lc v0 v7 s xs w hl hq ht p hp now h0 h1 what s1 hv).mono ?_
  rintro e V ⟨g, out, h1, h2, h3, _⟩
  exact ⟨g, out, h1, h2, h3⟩
theorem verdict_full {A B len room v : Int} {s s1 : Nat} (h : Ea.verdict A B len room v s = (2, s1)) : len = room := by
  unfold Ea.verdict at h
  split at h
  · assumption
  · split at h
    · cases h
    · split at h
      · cases h
      · split at h <;> cases h
end Go.Proofs.YtfeemiamjmmolaaDoor
