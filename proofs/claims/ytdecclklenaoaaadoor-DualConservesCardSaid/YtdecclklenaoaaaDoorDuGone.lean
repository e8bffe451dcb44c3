/- A set of numbers that a call keeps in a map of its own; lists of packets that grow by many. -/
import Derived.Test.YtdecclklenaoaaaDoorEaPk
import Derived.Maps.OwnOps
import Derived.Maps.Views
import Derived.Laws.AppendOwnNone
import Derived.Maps.AppendAt
namespace Go.Proofs.YtdecclklenaoaaaDoor
open Go.RowKit
open Go.Maps (int_keyed keyOf_int_mk)

/-- The map at block b holds these numbers. -/
def Gone (w : World) (b : Nat) (gone : List Int) : Prop :=
  ∃ D : DataW Unit, w.ownsMap Tryd.prog 3 (plainElem Tryd.prog 4) b gone.length D ∧ Go.Maps.IsMap D ∧ ∀ z : Int, D.atKey (.int .i64 z) (.lit (.bool false)) = .lit (.bool (gone.contains z))
theorem Gone.made (w : World) : Gone (w.alloc (.map #[] 0)) w.heap.size [] :=
  ⟨.map [], World.ownsMap_made w _ _ _, Go.Maps.isMap_empty, fun _ => rfl⟩
theorem Gone.kept {w w' : World} {b : Nat} {gone : List Int} {row : Option Nat} (h : Gone w b gone) (hg : w.grownBy w' row) (hne : some b ≠ row) : Gone w' b gone := by
  obtain ⟨D, h1, h2, h3⟩ := h
  exact ⟨D, h1.kept hg hne, h2, h3⟩
theorem Gone.lt {w : World} {b : Nat} {gone : List Int} (h : Gone w b gone) : b < w.heap.size := by
  obtain ⟨D, h1, _⟩ := h
  exact h1.lt
theorem Gone.below {w w' : World} {b : Nat} {gone : List Int} (h : Gone w b gone) (hb : Below w.heap.size w w') : Gone w' b gone := by
  have := h.lt
  exact h.kept (grown_below hb (some w.heap.size)) (fun e => by injection e with e; omega)
theorem gone_wf {z : Int} (h0 : 0 ≤ z) (h1 : z ≤ 1000000000) : (Lit.int .i64 z).wf = true := by
  simp only [Lit.wf, Bool.and_eq_true, decide_eq_true_eq]
  constructor
  · simp [IntKind.min, IntKind.signed, IntKind.bits]; omega
  · simp [IntKind.max, IntKind.signed, IntKind.bits]; omega
theorem plainElem_bool_inv {P : Program} {e : TypeId} (he : P.underlying e = some .bool) {v : Value} {z : DataW Unit × List MemPlace} (h : plainElem P e v = some z) : ∃ x, v = .bool x ∧ z = (.lit (.bool x), []) := by
  unfold plainElem at h
  rw [he] at h
  cases v <;> simp at h
  subst h
  exact ⟨_, rfl, rfl⟩
theorem zero_bool (w : World) : (zeroValue 4).run Tryd.prog w = .ok (.bool false) w := by kernel_rfl
/-- Is a number among them? -/
theorem wpList_gone_look {ops : Array Oper} {rest : List Oper} {o : Oper} {a : Act} {w : World} {Q : Exit → Act → World → Prop} (hg : o.guard = none) (m x : Operand) (hop : o.op = Op.lookup 45 m x false)
    (b : Nat) (gone : List Int) (hm : a.eval m = .map (some b)) (hown : Gone w b gone) (z : Int) (hx : a.eval x = .int .i64 z) (h0 : 0 ≤ z) (h1 : z ≤ 1000000000)
    (hK : wpList Tryd.prog ops Q rest (a.put o.dst (.bool (gone.contains z))) w) : wpList Tryd.prog ops Q (o :: rest) a w := by
  refine wpList_plain hg fun K' hK' => ?_
  obtain ⟨D, h2, h3, h4⟩ := hown
  obtain ⟨v, ps, hrun, hv⟩ := h2.lookup (int_keyed Tryd.underlying3) Tryd.underlying45 (zero_bool w) (plainElem_bool Tryd.underlying4 false) (keyOf_int_mk Tryd.underlying3 (gone_wf h0 h1))
  obtain ⟨c, rfl, hc⟩ := plainElem_bool_inv Tryd.underlying4 hv
  simp only [Prod.mk.injEq] at hc
  rw [h4] at hc
  have hc1 := hc.1
  injection hc1 with hc1
  injection hc1 with hc1
  subst hc1
  unfold Oper.wp
  simp [execOp, hop, hm, hx, hrun, Result.andThen]
  refine hK' _ _ ?_
  simpa using hK
/-- One number more. -/
theorem wpList_gone_add {ops : Array Oper} {rest : List Oper} {o : Oper} {a : Act} {w : World} {Q : Exit → Act → World → Prop} (hg : o.guard = none) (m x v : Operand) (hop : o.op = Op.mapUpdate 45 m x v)
    (b : Nat) (gone : List Int) (hm : a.eval m = .map (some b)) (hown : Gone w b gone) (hl : gone.length ≤ 1000000) (z : Int) (hx : a.eval x = .int .i64 z) (h0 : 0 ≤ z) (h1 : z ≤ 1000000000) (hv : a.eval v = .bool true)
    (hK : ∀ w', Gone w' b (gone ++ [z]) → w.grownBy w' (some b) → wpList Tryd.prog ops Q rest (a.put o.dst undef) w') : wpList Tryd.prog ops Q (o :: rest) a w := by
  obtain ⟨D, h2, h3, h4⟩ := hown
  refine wpList_mapUpdate_own w hg m x v 45 hop 3 4 (int_keyed Tryd.underlying3) Tryd.underlying45 _ b gone.length D hm h2 (by unfold maxLen; omega) _ _ (.int .i64 z) hx hv (keyOf_int_mk Tryd.underlying3 (gone_wf h0 h1)) (.lit (.bool true)) [] (plainElem_bool Tryd.underlying4 true) ?_
  intro w' r1 r2
  refine hK w' ⟨_, by rw [List.length_append]; exact r1, h3.put _ _, fun y => ?_⟩ r2
  by_cases e : y = z
  · subst e
    rw [Go.Maps.atKey_put_same h3 (by simp [WideAt.IsKeyLit])]
    simp
  · rw [Go.Maps.atKey_put_other (fun hc => e (by injection hc)), h4]
    simp [e]
/-- Many packets more. -/
theorem wp_add_pkts {o : Oper} {a : Act} {w : World} {K : Act → World → Prop} {Q : Exit → Act → World → Prop} {v u : Value} {base base' : Nat} {xs ys : List Ea.Pkt} (s x : Operand) (ho : o.op = .call { callee := .builtin .append, args := #[s, x], argTypes := #[33, 33] })
    (hs : a.eval s = v) (hk : OwnP w base v xs) (hbase : base ≤ w.heap.size) (hx : a.eval x = u) (hy : OwnP w base' u ys) (hn : xs.length ≤ 2000) (hm : ys.length ≤ 2000)
    (h : ∀ v' V, OwnP V base v' (xs ++ ys) → w.grownBy V v.ownBlock → K (a.put o.dst v') V) : o.wp Tryd.prog a w K Q := by
  obtain ⟨i0, hi, hz0, hz1, hz2⟩ := info_parts info_pkt
  have e1 : flatP (xs ++ ys) = flatP xs ++ flatP ys := by unfold flatP; rw [List.flatMap_append]
  have e2 : ∀ u ∈ flatP ys, u.oneCell' = true := fun u hu => by
    obtain ⟨p, _, hp⟩ := List.mem_flatMap.1 hu
    exact pktList_one p u hp
  have hy' : w.ownsRow base' 30 8 u ys.length (flatP ys) := hy
  rcases hy.2 with ⟨rfl, h0⟩ | ⟨g, cap, cur, rfl, _⟩
  · have hy0 : ys = [] := List.eq_nil_of_length_eq_zero h0
    subst hy0
    have hrun := run_append_owned_none (P := Tryd.prog) (w := w) base 33 o.type 30 i0 8 Tryd.underlying33 hi v xs.length (flatP xs) hk
    unfold Oper.wp
    simp [execOp, ho, resolve, invoke, builtin, hs, hx, hrun, Result.andThen]
    exact h v w (by rw [List.append_nil]; exact hk) (World.grownBy.refl w _)
  · refine wp_append_own w s x 33 ho base 30 i0 _ 8 56 Tryd.underlying33 hi hz0 hz1 hz2 rfl (by decide) v xs.length (flatP xs) hs hk ⟨g, 0, none⟩ ys.length cap (flatP ys) hx (flatP_length ys) (hy'.cells (g := g) rfl) e2 (by unfold maxLen; omega) (by omega) hbase ?_
    intro v' V h1 h2 _
    rw [← e1] at h1
    exact h v' V (by unfold OwnP; rw [List.length_append]; exact h1) h2
/-- One packet more, and where the list lies then. -/
theorem wpList_add_pkt_at {ops : Array Oper} {rest : List Oper} {o : Oper} {a : Act} {w : World} {Q : Exit → Act → World → Prop} {v : Value} {base : Nat} {xs : List Ea.Pkt} (hgd : o.guard = none) (s x : Operand) (ho : o.op = .call { callee := .builtin .append, args := #[s, x], argTypes := #[33, 33] })
    (hs : a.eval s = v) (hk : OwnP w base v xs) (hbase : base ≤ w.heap.size) (b of : Nat) (p : Ea.Pkt) (hx : a.eval x = .slice (some ⟨b, of, none⟩) 1 1) (hr : w.rangeAt b of (pktList p)) (hn : xs.length ≤ 2000)
    (h : ∀ v' V, OwnP V base v' (xs ++ [p]) → w.grownBy V v.ownBlock → (v'.ownBlock = v.ownBlock ∨ v'.ownBlock = some w.heap.size) → wpList Tryd.prog ops Q rest (a.put o.dst v') V) : wpList Tryd.prog ops Q (o :: rest) a w := by
  obtain ⟨i0, hi, hz0, hz1, hz2⟩ := info_parts info_pkt
  refine wpList_append_own_at w hgd s x 33 ho base 30 i0 _ 8 56 Tryd.underlying33 hi hz0 hz1 hz2 rfl (by decide) v xs.length (flatP xs) hs hk ⟨b, of, none⟩ 1 1 (pktList p) hx rfl (fun j u hj => by rw [Addr.add_mid]; exact hr j u hj) (pktList_one p) (by unfold maxLen; omega) (by omega) hbase ?_
  intro v' V h1 h2 _ h3
  rw [← flatP_snoc] at h1
  exact h v' V (by unfold OwnP; rw [List.length_append]; exact h1) h2 h3
end Go.Proofs.YtdecclklenaoaaaDoor
