/- Packages early and dual: lists of waiting packets that a call has made, and how they grow. -/
import Derived.Test.YtfeemiamjmmolaaDoorQuSmall
import Derived.ArgAppend
import Derived.Laws.AppendOwnNone
namespace Go.Proofs.YtfeemiamjmmolaaDoor
open Go.RowKit

theorem info_item : (Tryd.prog.info? 37).map (fun i => (i.zero, i.size, i.bytes)) = some (some (.agg #[.int .i64 0, .int .i64 0, .int .i64 0, .int .i64 0, .int .i64 0, .int .i64 0, .bool false, .bool false, .int .i64 0]), 9, 64) := by kernel_rfl
/-- A list that a call has made: empty without room, or a row of its own. -/
def OwnL (W : World) (base : Nat) (a : Option Addr) (n c : Nat) (xs : List Ea.Item) : Prop :=
  (n = 0 ∧ c = 0 ∧ xs = []) ∨ (0 < n ∧ W.ownsRow base 37 9 (.slice a n c) n (flatQ xs))
theorem own_below9 {w w1 : World} {base e n : Nat} {v : Value} {xs : List Value} (h : w.ownsRow base e 9 v n xs) (hb : Below w.heap.size w w1) : w1.ownsRow base e 9 v n xs :=
  h.kept (row := some w.heap.size) ⟨hb.os, hb.tape, hb.output, hb.size, fun i hi _ => hb.block i hi⟩ (by
    cases hv : v.ownBlock with
    | none => exact Or.inl rfl
    | some j => exact Or.inr (fun hc => by injection hc with hc; have := (h.lt j hv).2; omega))
theorem OwnL.below {W V : World} {base : Nat} {a : Option Addr} {n c : Nat} {xs : List Ea.Item} (h : OwnL W base a n c xs) (hb : Below W.heap.size W V) : OwnL V base a n c xs := by
  rcases h with h | ⟨h0, h⟩
  · exact Or.inl h
  · exact Or.inr ⟨h0, own_below9 h hb⟩
theorem OwnL.head {W : World} {base : Nat} {a : Option Addr} {n c : Nat} {xs : List Ea.Item} (h : OwnL W base a n c xs) (hn : 0 < n) : ∃ g, a = some ⟨g, 0, none⟩ ∧ base ≤ g ∧ g < W.heap.size := by
  rcases h with ⟨rfl, _⟩ | ⟨_, h⟩
  · exact absurd hn (Nat.lt_irrefl 0)
  · rcases h.2 with ⟨_, h0⟩ | ⟨g, cap, cur, hv, hb, hg, _⟩
    · omega
    · injection hv with e1 e2 e3
      exact ⟨g, e1, hb, (Array.getElem?_eq_some_iff.1 hg).1⟩
theorem OwnL.rd {W : World} {base : Nat} {a : Option Addr} {n c : Nat} {xs : List Ea.Item} (h : OwnL W base a n c xs) : RdQ W a n xs := by
  have h0 := h
  rcases h with ⟨rfl, rfl, rfl⟩ | ⟨hn, h⟩
  · exact ⟨rfl, fun i hi => absurd hi (Nat.not_lt_zero i)⟩
  · obtain ⟨g, rfl, _, _⟩ := h0.head hn
    exact own_rdQ h
/-- A list that is read, in memory of its own type. -/
def RdT (w : World) (a : Option Addr) (n : Nat) (xs : List Ea.Item) : Prop := RdQ w a n xs ∧ ∀ b, a = some b → 0 < n → ∃ cs fr, w.heap[b.block]? = some (.cells cs 37 fr)
theorem OwnL.rdT {W : World} {base : Nat} {a : Option Addr} {n c : Nat} {xs : List Ea.Item} (h : OwnL W base a n c xs) : RdT W a n xs := by
  refine ⟨h.rd, fun b e hn => ?_⟩
  subst e
  rcases h with ⟨rfl, _⟩ | ⟨_, h⟩
  · exact absurd hn (Nat.lt_irrefl 0)
  · rcases h.2 with ⟨hv, _⟩ | ⟨g, cap, cur, hv, _, hg, _⟩
    · injection hv with e1
      cases e1
    · injection hv with e1
      injection e1 with e1
      subst e1
      exact ⟨cur, _, hg⟩
theorem rdT_nil {W : World} {a : Option Addr} {xs : List Ea.Item} {n : Nat} (hn : n = 0) (hx : xs.length = n) : RdT W a n xs := by
  subst hn
  exact ⟨⟨hx, fun i hi => absurd hi (Nat.not_lt_zero i)⟩, fun _ _ h => absurd h (Nat.lt_irrefl 0)⟩
theorem OwnL.kept {W V : World} {base : Nat} {a : Option Addr} {n c : Nat} {xs : List Ea.Item} {row : Option Nat} (h : OwnL W base a n c xs) (hg : W.grownBy V row) (hne : ∀ ad, a = some ad → 0 < n → some ad.block ≠ row) : OwnL V base a n c xs := by
  rcases h with h | ⟨hn, h⟩
  · exact Or.inl h
  · refine Or.inr ⟨hn, h.kept hg ?_⟩
    cases a with
    | none => exact Or.inl rfl
    | some ad => exact Or.inr (hne ad rfl hn)
theorem rdQ_nil {w : World} {n : Nat} {xs : List Ea.Item} (h : RdQ w none n xs) : n = 0 ∧ xs = [] := by
  have hn : n = 0 := by
    rcases Nat.eq_zero_or_pos n with h0 | h0
    · exact h0
    · obtain ⟨b, o, e, _⟩ := h.2 0 h0
      cases e
  subst hn
  exact ⟨rfl, List.eq_nil_of_length_eq_zero h.1⟩
theorem RdQ.flat' {w : World} {ad : Addr} {n : Nat} {xs : List Ea.Item} (h : RdQ w (some ad) n xs) (hn : 0 < n) : ∃ b o, ad = ⟨b, o, none⟩ ∧ w.rangeAt b o (flatQ xs) := by
  obtain ⟨b, o, e, _⟩ := h.2 0 hn
  injection e with e
  subst e
  exact ⟨b, o, rfl, h.flat⟩
/-- A list is copied behind an empty one without room. -/
theorem wp_copy_items {o : Oper} {a : Act} {w : World} {K : Act → World → Prop} {Q : Exit → Act → World → Prop} {la : Option Addr} {n c : Nat} {xs : List Ea.Item} (s x : Operand) (ho : o.op = .call { callee := .builtin .append, args := #[s, x], argTypes := #[33, 33] })
    (hs : a.eval s = .slice la 0 0) (hx : a.eval x = .slice la n c) (hk : RdQ w la n xs) (hn : n ≤ 600)
    (h : ∀ a' c' V, OwnL V w.heap.size a' n c' xs → Below w.heap.size w V → K (a.put o.dst (.slice a' n c')) V) : o.wp Tryd.prog a w K Q := by
  obtain ⟨i0, hi, hz0, hz1, hz2⟩ := info_parts info_item
  rcases Nat.eq_zero_or_pos n with h0 | h0
  · subst h0
    have hxs : xs = [] := List.eq_nil_of_length_eq_zero hk.1
    have hr : (Builtin.append_ #[33, 33] o.type #[.slice la 0 0, .slice la 0 c]).run Tryd.prog w = .ok (.slice la 0 0) w := by
      cases la <;> simp [Builtin.append_, run_underlying Tryd.underlying33, sizeOf, typeInfo, hi, Builtin.lenOf, Builtin.firstCells, loadCells, loadCellsFrom, storeCells]
    unfold Oper.wp execOp
    simp only [ho, resolve, invoke, builtin, Sem.run_bind, Sem.run_pure, Result.andThen_ok, List.map_toArray, List.map_cons, List.map_nil, hs, hx, hr]
    exact h la 0 w (Or.inl ⟨rfl, rfl, hxs⟩) (Below.refl _ _)
  · cases la with
    | none => have := (rdQ_nil hk).1; omega
    | some ad =>
      obtain ⟨b, of, rfl, hrg⟩ := hk.flat' h0
      obtain ⟨v', V, hr, hown, hg⟩ := run_append_arg_grows (P := Tryd.prog) w 33 o.type 37 i0 _ 9 64 Tryd.underlying33 hi hz0 hz1 hz2 rfl (by decide) ⟨b, of, none⟩ 0 0 [] rfl (fun j u hj => by cases hj) ⟨b, of, none⟩ n c (flatQ xs) (by rw [flatQ_length, hk.1]) (fun j u hj => by rw [Addr.add_mid]; exact hrg j u hj) (by omega) (by unfold maxLen; omega) (by omega)
      rw [Nat.zero_add, List.nil_append] at hown
      unfold Oper.wp execOp
      simp only [ho, resolve, invoke, builtin, Sem.run_bind, Sem.run_pure, Result.andThen_ok, List.map_toArray, List.map_cons, List.map_nil, hs, hx, hr]
      rcases hown.2 with ⟨_, h1⟩ | ⟨g, cap, cur, rfl, _⟩
      · omega
      · exact h _ _ V (Or.inr ⟨h0, hown⟩) ⟨hg.os, hg.tape, hg.output, hg.size, fun k hk => hg.block k hk (by simp)⟩
theorem wpList_copy_items {ops : Array Oper} {rest : List Oper} {o : Oper} {a : Act} {w : World} {Q : Exit → Act → World → Prop} {la : Option Addr} {n c : Nat} {xs : List Ea.Item} (hgd : o.guard = none) (s x : Operand) (ho : o.op = .call { callee := .builtin .append, args := #[s, x], argTypes := #[33, 33] })
    (hs : a.eval s = .slice la 0 0) (hx : a.eval x = .slice la n c) (hk : RdQ w la n xs) (hn : n ≤ 600)
    (h : ∀ a' c' V, OwnL V w.heap.size a' n c' xs → Below w.heap.size w V → wpList Tryd.prog ops Q rest (a.put o.dst (.slice a' n c')) V) : wpList Tryd.prog ops Q (o :: rest) a w :=
  wpList_plain hgd fun _ hK => wp_copy_items s x ho hs hx hk hn fun a' c' V h1 h2 => hK _ _ (h a' c' V h1 h2)
/-- One packet more. -/
theorem wp_add_item {o : Oper} {a : Act} {w : World} {K : Act → World → Prop} {Q : Exit → Act → World → Prop} {la : Option Addr} {n c base : Nat} {xs : List Ea.Item} (s x : Operand) (ho : o.op = .call { callee := .builtin .append, args := #[s, x], argTypes := #[33, 33] })
    (hs : a.eval s = .slice la n c) (hk : OwnL w base la n c xs) (hbase : base ≤ w.heap.size) (b of : Nat) (it : Ea.Item) (hx : a.eval x = .slice (some ⟨b, of, none⟩) 1 1) (hr : w.rangeAt b of (itemList it)) (hn : n ≤ 600)
    (h : ∀ g' c' row V, V.ownsRow base 37 9 (.slice (some ⟨g', 0, none⟩) (n + 1) c') (n + 1) (flatQ (xs ++ [it])) → w.grownBy V row → (∀ k, row = some k → 0 < n ∧ la = some ⟨k, 0, none⟩) → K (a.put o.dst (.slice (some ⟨g', 0, none⟩) (n + 1) c')) V) : o.wp Tryd.prog a w K Q := by
  obtain ⟨i0, hi, hz0, hz1, hz2⟩ := info_parts info_item
  rcases hk with ⟨rfl, rfl, rfl⟩ | ⟨h0, hown⟩
  · have key : ∃ v' V, (Builtin.append_ #[33, 33] o.type #[.slice la 0 0, .slice (some ⟨b, of, none⟩) 1 1]).run Tryd.prog w = .ok v' V ∧ V.ownsRow w.heap.size 37 9 v' 1 (itemList it) ∧ w.grownBy V none := by
      cases la with
      | none =>
        obtain ⟨v', V, hr', h2, h3, _⟩ := run_append_own (P := Tryd.prog) w w.heap.size 33 o.type 37 i0 _ 9 64 Tryd.underlying33 hi hz0 hz1 hz2 rfl (by decide) (.slice none 0 0) 0 [] (World.ownsRow_nil w _ _ 9) ⟨b, of, none⟩ 1 1 (itemList it) rfl (fun j u hj => by rw [Addr.add_mid]; exact hr j u hj) (itemList_one it) (by unfold maxLen; omega) (by omega) (Nat.le_refl _)
        exact ⟨v', V, hr', h2, h3⟩
      | some ad =>
        obtain ⟨v', V, hr', h2, h3⟩ := run_append_arg_grows (P := Tryd.prog) w 33 o.type 37 i0 _ 9 64 Tryd.underlying33 hi hz0 hz1 hz2 rfl (by decide) ad 0 0 [] rfl (fun j u hj => by cases hj) ⟨b, of, none⟩ 1 1 (itemList it) rfl (fun j u hj => by rw [Addr.add_mid]; exact hr j u hj) (by omega) (by unfold maxLen; omega) (by omega)
        exact ⟨v', V, hr', h2, h3⟩
    obtain ⟨v', V, hr', hown, hg⟩ := key
    unfold Oper.wp execOp
    simp only [ho, resolve, invoke, builtin, Sem.run_bind, Sem.run_pure, Result.andThen_ok, List.map_toArray, List.map_cons, List.map_nil, hs, hx, hr']
    rcases hown.2 with ⟨_, h1⟩ | ⟨g, cap, cur, rfl, hb, hgg, rest⟩
    · omega
    · have e : flatQ ([] ++ [it]) = itemList it := by rw [flatQ_snoc]; rfl
      exact h g cap none V (by rw [e]; exact ⟨hown.1, Or.inr ⟨g, cap, cur, rfl, Nat.le_trans hbase hb, hgg, rest⟩⟩) hg (fun k hk => by cases hk)
  · obtain ⟨v', V, hr', hown', hg, _⟩ := run_append_own (P := Tryd.prog) w base 33 o.type 37 i0 _ 9 64 Tryd.underlying33 hi hz0 hz1 hz2 rfl (by decide) (.slice la n c) n (flatQ xs) hown ⟨b, of, none⟩ 1 1 (itemList it) rfl (fun j u hj => by rw [Addr.add_mid]; exact hr j u hj) (itemList_one it) (by unfold maxLen; omega) (by omega) hbase
    rw [← flatQ_snoc] at hown'
    obtain ⟨g0, rfl, _, _⟩ := OwnL.head (W := w) (base := base) (xs := xs) (c := c) (Or.inr ⟨h0, hown⟩) h0
    unfold Oper.wp execOp
    simp only [ho, resolve, invoke, builtin, Sem.run_bind, Sem.run_pure, Result.andThen_ok, List.map_toArray, List.map_cons, List.map_nil, hs, hx, hr']
    rcases hown'.2 with ⟨_, h1⟩ | ⟨g, cap, cur, rfl, hb, hgg, rest⟩
    · omega
    · exact h g cap (some g0) V hown' hg (fun k hk => by injection hk with hk; subst hk; exact ⟨h0, rfl⟩)
/-- A row of packets lies where no slice lies. -/
theorem own_apart {V : World} {base g n c : Nat} {xs : List Ea.Item} (h : V.ownsRow base 37 9 (.slice (some ⟨g, 0, none⟩) n c) n (flatQ xs)) (h0 : 0 < n) {k j : Nat} (hj : j < 6) {a : Option Addr} {m d : Nat} (hc : V.cell? ⟨k, j, none⟩ = some (.slice a m d)) : g ≠ k := by
  rintro rfl
  have hl := h.1
  rw [flatQ_length] at hl
  have h1 := h.cellAt j (by omega)
  have h2 := flatQ_get xs 0 j (by omega) (by omega)
  rw [Nat.zero_mul, Nat.zero_add] at h2
  rw [hc, h2] at h1
  match j, hj with
  | 0, _ => cases h1
  | 1, _ => cases h1
  | 2, _ => cases h1
  | 3, _ => cases h1
  | 4, _ => cases h1
  | 5, _ => cases h1
end Go.Proofs.YtfeemiamjmmolaaDoor
