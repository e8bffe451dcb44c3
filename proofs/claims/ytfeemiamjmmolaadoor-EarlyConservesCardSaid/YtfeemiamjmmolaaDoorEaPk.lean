/- Lists of packets that a call has made: they grow by one packet, and a mark may be struck. -/
import Derived.Test.YtfeemiamjmmolaaDoorEaRow
namespace Go.Proofs.YtfeemiamjmmolaaDoor
open Go.RowKit

theorem info_pkt : (Tryd.prog.info? 35).map (fun i => (i.zero, i.size, i.bytes)) = some (some (.agg #[.int .i64 0, .int .i64 0, .int .i64 0, .int .i64 0, .int .i64 0, .int .i64 0, .bool false, .bool false]), 8, 56) := by kernel_rfl
def flatP (xs : List Ea.Pkt) : List Value := xs.flatMap pktList
theorem flatP_cons (x : Ea.Pkt) (xs : List Ea.Pkt) : flatP (x :: xs) = pktList x ++ flatP xs := rfl
theorem flatP_snoc (xs : List Ea.Pkt) (x : Ea.Pkt) : flatP (xs ++ [x]) = flatP xs ++ pktList x := by
  unfold flatP
  rw [List.flatMap_append]
  simp
theorem flatP_length (xs : List Ea.Pkt) : (flatP xs).length = xs.length * 8 := by
  induction xs with
  | nil => rfl
  | cons x xs ih => rw [flatP_cons, List.length_append, ih, List.length_cons]; simp only [List.length_cons, List.length_nil]; omega
theorem flatP_get : ∀ (xs : List Ea.Pkt) (i c : Nat), i < xs.length → c < 8 → (flatP xs)[i * 8 + c]? = (pktList (xs.getD i default))[c]?
  | [], i, c, h, _ => absurd h (by simp)
  | x :: xs, 0, c, _, hc => by
    rw [flatP_cons, Nat.zero_mul, Nat.zero_add, List.getElem?_append_left (by simpa using hc)]
    rfl
  | x :: xs, i + 1, c, h, hc => by
    rw [flatP_cons, List.getElem?_append_right (by simp only [List.length_cons, List.length_nil]; omega)]
    have e : (i + 1) * 8 + c - (pktList x).length = i * 8 + c := by simp only [List.length_cons, List.length_nil]; omega
    rw [e, flatP_get xs i c (by simpa using h) hc]
    rfl
/-- A list of packets of the call's own: nil, or a row. -/
abbrev OwnP (W : World) (base : Nat) (v : Value) (xs : List Ea.Pkt) : Prop := W.ownsRow base 35 8 v xs.length (flatP xs)
theorem OwnP.nil (W : World) (base : Nat) : OwnP W base (.slice none 0 0) [] := World.ownsRow_nil W base _ 8
theorem OwnP.slice {W : World} {base : Nat} {v : Value} {xs : List Ea.Pkt} (h : OwnP W base v xs) : ∃ a c, v = .slice a xs.length c := by
  rcases h.2 with ⟨hv, h0⟩ | ⟨g, cap, cur, hv, _⟩
  · rw [h0]
    exact ⟨_, _, hv⟩
  · exact ⟨_, _, hv⟩
theorem own_below8 {w w1 : World} {base e n : Nat} {v : Value} {xs : List Value} (h : w.ownsRow base e 8 v n xs) (hb : Below w.heap.size w w1) : w1.ownsRow base e 8 v n xs :=
  h.kept (row := some w.heap.size) ⟨hb.os, hb.tape, hb.output, hb.size, fun i hi _ => hb.block i hi⟩ (by
    cases hv : v.ownBlock with
    | none => exact Or.inl rfl
    | some j => exact Or.inr (fun hc => by injection hc with hc; have := (h.lt j hv).2; omega))
/-- A packet of the list. -/
theorem OwnP.at {W : World} {base : Nat} {v : Value} {xs : List Ea.Pkt} (h : OwnP W base v xs) (i : Nat) (hi : i < xs.length) : ∃ g c, v = .slice (some ⟨g, 0, none⟩) xs.length c ∧ base ≤ g ∧ g < W.heap.size ∧ W.rangeAt g (i * 8) (pktList (xs.getD i default)) := by
  have hlt := h.lt
  rcases h.2 with ⟨hv, h0⟩ | ⟨g, cap, cur, hv, hb, hg, h3⟩
  · omega
  · refine ⟨g, cap, hv, hb, (Array.getElem?_eq_some_iff.1 hg).1, fun j u hj => ?_⟩
    have hj8 : j < 8 := (List.getElem?_eq_some_iff.1 hj).1
    subst hv
    have h2 : W.ownsRow base 35 8 (.slice (some ⟨g, 0, none⟩) xs.length cap) xs.length (flatP xs) := h
    rw [h2.cellAt _ (by omega), flatP_get _ _ _ hi hj8, hj]
theorem flatP_set (xs : List Ea.Pkt) (i : Nat) (hi : i < xs.length) (b : Bool) : (flatP xs).set (i * 8 + 7) (.bool b) = flatP (xs.set i { xs.getD i default with marked := b }) := by
  apply List.ext_getElem?
  intro j
  by_cases hj : j < xs.length * 8
  · have hd : j / 8 < xs.length := by omega
    have hm : j % 8 < 8 := Nat.mod_lt _ (by omega)
    have ej : j / 8 * 8 + j % 8 = j := by omega
    rw [← ej, flatP_get _ _ _ (by rw [List.length_set]; exact hd) hm]
    by_cases e : i * 8 + 7 = j / 8 * 8 + j % 8
    · have e1 : j / 8 = i := by omega
      have e2 : j % 8 = 7 := by omega
      rw [e1, e2, List.getElem?_set_self (by rw [flatP_length]; omega), List.getD_eq_getElem?_getD, List.getElem?_set_self hi]
      rfl
    · rw [List.getElem?_set_ne e, flatP_get _ _ _ hd hm]
      by_cases e1 : j / 8 = i
      · have e2 : j % 8 ≠ 7 := by omega
        rw [e1]
        have e3 : (xs.set i { xs.getD i default with marked := b }).getD i default = { xs.getD i default with marked := b } := by
          rw [List.getD_eq_getElem?_getD, List.getElem?_set_self hi]
          rfl
        rw [e3]
        match hk : j % 8, hm, e2 with
        | 0, _, _ => rfl
        | 1, _, _ => rfl
        | 2, _, _ => rfl
        | 3, _, _ => rfl
        | 4, _, _ => rfl
        | 5, _, _ => rfl
        | 6, _, _ => rfl
        | 7, _, h => exact absurd rfl h
        | n + 8, h, _ => exact absurd h (by omega)
      · have e3 : (xs.set i { xs.getD i default with marked := b }).getD (j / 8) default = xs.getD (j / 8) default := by
          rw [List.getD_eq_getElem?_getD, List.getElem?_set_ne (fun h => e1 h.symm), List.getD_eq_getElem?_getD]
        rw [e3]
  · rw [List.getElem?_eq_none (by rw [List.length_set, flatP_length]; omega), List.getElem?_eq_none (by rw [flatP_length, List.length_set]; omega)]
/-- One packet more. -/
theorem wpList_add_pkt {ops : Array Oper} {rest : List Oper} {o : Oper} {a : Act} {w : World} {Q : Exit → Act → World → Prop} {v : Value} {base : Nat} {xs : List Ea.Pkt} (hgd : o.guard = none) (s x : Operand) (ho : o.op = .call { callee := .builtin .append, args := #[s, x], argTypes := #[32, 32] })
    (hs : a.eval s = v) (hk : OwnP w base v xs) (hbase : base ≤ w.heap.size) (b of : Nat) (p : Ea.Pkt) (hx : a.eval x = .slice (some ⟨b, of, none⟩) 1 1) (hr : w.rangeAt b of (pktList p)) (hn : xs.length ≤ 2000)
    (h : ∀ v' V, OwnP V base v' (xs ++ [p]) → w.grownBy V v.ownBlock → wpList Tryd.prog ops Q rest (a.put o.dst v') V) : wpList Tryd.prog ops Q (o :: rest) a w := by
  obtain ⟨i0, hi, hz0, hz1, hz2⟩ := info_parts info_pkt
  refine wpList_append_own w hgd s x 32 ho base 35 i0 _ 8 56 Tryd.underlying32 hi hz0 hz1 hz2 rfl (by decide) v xs.length (flatP xs) hs hk ⟨b, of, none⟩ 1 1 (pktList p) hx rfl (fun j u hj => by rw [Addr.add_mid]; exact hr j u hj) (pktList_one p) (by unfold maxLen; omega) (by omega) hbase ?_
  intro v' V h1 h2 _
  rw [← flatP_snoc] at h1
  exact h v' V (by unfold OwnP; rw [List.length_append]; exact h1) h2
/-- Rows of packets lie where no slice lies. -/
theorem ownP_apart {V : World} {base : Nat} {v : Value} {xs : List Ea.Pkt} (h : OwnP V base v xs) {k j : Nat} (hj : j < 6) {a : Option Addr} {m d : Nat} (hc : V.cell? ⟨k, j, none⟩ = some (.slice a m d)) (hx : 0 < xs.length) : v.ownBlock ≠ some k := by
  intro e
  obtain ⟨g, c, rfl, _, _, hr⟩ := OwnP.at h 0 hx
  have hg : g = k := by simpa [Value.ownBlock] using e
  subst hg
  have h2 : ∃ u, (pktList (xs.getD 0 default))[j]? = some (.int .i64 u) := by
    match j, hj with
    | 0, _ => exact ⟨_, rfl⟩
    | 1, _ => exact ⟨_, rfl⟩
    | 2, _ => exact ⟨_, rfl⟩
    | 3, _ => exact ⟨_, rfl⟩
    | 4, _ => exact ⟨_, rfl⟩
    | 5, _ => exact ⟨_, rfl⟩
  obtain ⟨u, h2⟩ := h2
  have h3 := hr j _ h2
  rw [Nat.zero_mul, Nat.zero_add, hc] at h3
  cases h3
end Go.Proofs.YtfeemiamjmmolaaDoor
