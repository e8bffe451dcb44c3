/- Memory of packages early and dual, block by block: a whole struct is read, or stored. -/
import Derived.Test.YtfeemiamjmmolaaDoorEaOwn
import Derived.Test.YtfeemiamjmmolaaDoorRandWalk
import Derived.StillTailTactics
namespace Go.Proofs.YtfeemiamjmmolaaDoor
open Go.RowKit

/-- A struct is stored as a whole into a new block. -/
theorem wpList_store_new {P : Program} {ops : Array Oper} {rest : List Oper} {op : Oper} {a : Act} {w : World} {Q : Exit → Act → World → Prop} (hgd : op.guard = none) (ty : TypeId) (x y : Operand) (ho : op.op = .store ty x y) (c c' : Array Value)
    (hx : a.eval x = .pointer (some ⟨w.heap.size, 0, none⟩)) (hy : a.eval y = .agg c') (hi : (P.info? ty).map (·.size) = some c'.size) (hc : c.size = c'.size) (h1 : c'.all (·.oneCell') = true)
    (h : wpList P ops Q rest (a.put op.dst undef) (w.alloc (.cells c' ty))) : wpList P ops Q (op :: rest) a (w.alloc (.cells c ty)) :=
  wpList_plain hgd fun _ hK => by
    unfold Oper.wp execOp
    simp only [ho, hx, hy, Instr.storeAt, Instr.sureAddr, Sem.run_bind, Sem.run_pure, Result.andThen_ok, run_storeVar_new w ty c c' hi hc h1]
    exact hK _ _ h
theorem range_new (w : World) (cs : Array Value) (t : TypeId) : (w.alloc (.cells cs t)).rangeAt w.heap.size 0 cs.toList := (Blk.new w cs t).range

theorem cell_apart {w : World} {a p : Addr} {u v : Value} (h : w.cell? a = some v) (hne : a.block ≠ p.block) : (w.setCell p u).cell? a = some v := by
  rw [World.cell?_setCell_other w p a u (fun e => hne (by rw [e]))]; exact h
theorem OwnL.mono {W : World} {base base' : Nat} {a : Option Addr} {n c : Nat} {xs : List Ea.Item} (h : OwnL W base a n c xs) (hb : base' ≤ base) : OwnL W base' a n c xs := by
  rcases h with h | ⟨h0, h⟩
  · exact Or.inl h
  · refine Or.inr ⟨h0, h.1, ?_⟩
    rcases h.2 with h | ⟨g, cap, cur, e, hg, h2⟩
    · exact Or.inl h
    · exact Or.inr ⟨g, cap, cur, e, Nat.le_trans hb hg, h2⟩
theorem blk_new_at (W : World) (cs : Array Value) (t : TypeId) {g : Nat} (h : W.heap.size = g) : Blk (W.alloc (.cells cs t)) g cs.toList := h ▸ Blk.new W cs t
theorem blk_drewN {W : World} {g : Nat} {cs : List Value} (h : Blk W g cs) (k : Nat) : Blk (W.drewN k) g cs := h
/-- The slice that lies here reads as these packets. -/
def HoldsL (w : World) (ad : Addr) (xs : List Ea.Item) : Prop := ∃ a c, w.cell? ad = some (.slice a xs.length c) ∧ RdQ w a xs.length xs
theorem HoldsL.below {w V : World} {ad : Addr} {xs : List Ea.Item} (h : HoldsL w ad xs) (hb : Below w.heap.size w V) : HoldsL V ad xs := by
  obtain ⟨a, c, h1, h2⟩ := h
  exact ⟨a, c, below_cell_of hb h1, h2.below hb⟩
/-- The same, in memory of its own type. -/
def HoldsT (w : World) (ad : Addr) (xs : List Ea.Item) : Prop := ∃ a c, w.cell? ad = some (.slice a xs.length c) ∧ RdT w a xs.length xs
theorem HoldsT.holds {w : World} {ad : Addr} {xs : List Ea.Item} (h : HoldsT w ad xs) : HoldsL w ad xs := by
  obtain ⟨a, c, h1, h2⟩ := h
  exact ⟨a, c, h1, h2.1⟩
theorem table_below {w V : World} (h : Table w) (hb : Below w.heap.size w V) : Table V := by
  obtain ⟨t0, t1, t2, t3, t4, t5⟩ := h
  exact ⟨below_cell_of hb t0, below_cell_of hb t1, below_cell_of hb t2, below_cell_of hb t3, below_cell_of hb t4, below_cell_of hb t5⟩
/-- A struct is read as a whole, in a region that draws its order. -/
theorem wpStill_load_mid {P : Program} {ops : Array Oper} {w : World} {Q : Act → Prop} {a : Act} {op : Oper} {rest : List Oper} (hw : Region.wanted op (yielded ops a.tmps) = true) (ty : TypeId) (x : Operand) (ho : op.op = .load ty x)
    (b o : Nat) (hx : a.eval x = .pointer (some ⟨b, o, none⟩)) (cs : List Value) (d : TypeDesc) (hc : w.rangeAt b o cs) (hu : P.underlying ty = some d) (hd : d.isRow = true) (hi : (P.info? ty).map (·.size) = some cs.length)
    (h : wpStill P ops w Q rest (a.put op.dst (.agg cs.toArray))) : wpStill P ops w Q (op :: rest) a := by
  refine wpStill_step (fun K hK => ?_)
  rw [if_pos hw]
  have e : (execOp a.eval op).run P w = .ok (.value (.agg cs.toArray)) w := by
    unfold execOp
    simp only [ho, hx, Instr.loadAt, Instr.sureAddr, Sem.run_bind, Sem.run_pure, Result.andThen_ok, run_loadVar_mid w b o ty cs d hc hu hd hi]
  unfold Oper.still
  rw [e, Oper.stillUpon_value]
  exact hK _ h
theorem setRow_grown (W : World) (g : Nat) (cs : Array Value) : W.grownBy (W.setRow g cs) (some g) :=
  ⟨rfl, rfl, rfl, by simp [World.setRow], fun k _ hk => setRow_other W g k cs (fun e => hk (by rw [e]))⟩
/-- A struct is stored as a whole. -/
theorem wpList_store_blk {P : Program} {ops : Array Oper} {rest : List Oper} {o : Oper} {a : Act} {W : World} {Q : Exit → Act → World → Prop} (hgd : o.guard = none) (ty : TypeId) (x y : Operand) (ho : o.op = .store ty x y)
    (g : Nat) (cs cs' : List Value) (hx : a.eval x = .pointer (some ⟨g, 0, none⟩)) (hy : a.eval y = .agg cs'.toArray) (hb : Blk W g cs) (hi : (P.info? ty).map (·.size) = some cs'.length) (hl : cs.length = cs'.length) (h1 : ∀ v, v ∈ cs' → v.oneCell' = true)
    (h : ∀ V, Blk V g cs' → W.grownBy V (some g) → wpList P ops Q rest (a.put o.dst undef) V) : wpList P ops Q (o :: rest) a W := by
  obtain ⟨t, hb⟩ := hb
  refine wpList_store_row hgd ty x y ho g cs'.toArray hx hy t cs.toArray hb (by simpa using hi) (by simpa using hl) (Array.all_eq_true_iff_forall_mem.2 (by simpa using h1)) (h _ ⟨t, ?_⟩ (setRow_grown _ _ _))
  exact setRow_heap W g _ _ t _ hb
/-- The same, in a region that draws its order. -/
theorem ready_store_blk {P : Program} {o : Oper} {a : Act} {W : World} {K : Act → World → Prop} {Q : Exit → Act → World → Prop} {wn : Bool} (hw : wn = true) (hgd : Prop) (ty : TypeId) (x y : Operand) (ho : o.op = .store ty x y)
    (g : Nat) (cs cs' : List Value) (hx : a.eval x = .pointer (some ⟨g, 0, none⟩)) (hy : a.eval y = .agg cs'.toArray) (hb : Blk W g cs) (hi : (P.info? ty).map (·.size) = some cs'.length) (hl : cs.length = cs'.length) (h1 : ∀ v, v ∈ cs' → v.oneCell' = true)
    (h : ∀ V, Blk V g cs' → W.grownBy V (some g) → K (a.put o.dst undef) V) : if wn = true then Oper.wp P o a W K Q else hgd := by
  rw [if_pos hw]
  obtain ⟨t, hb⟩ := hb
  refine wp_store_row ty x y ho g cs'.toArray hx hy t cs.toArray hb (by simpa using hi) (by simpa using hl) (Array.all_eq_true_iff_forall_mem.2 (by simpa using h1)) (h _ ⟨t, ?_⟩ (setRow_grown _ _ _))
  exact setRow_heap W g _ _ t _ hb
theorem ready_add_item {o : Oper} {a : Act} {w : World} {K : Act → World → Prop} {Q : Exit → Act → World → Prop} {wn : Bool} (hw : wn = true) (hgd : Prop) {la : Option Addr} {n c base : Nat} {xs : List Ea.Item} (s x : Operand) (ho : o.op = .call { callee := .builtin .append, args := #[s, x], argTypes := #[33, 33] })
    (hs : a.eval s = .slice la n c) (hk : OwnL w base la n c xs) (hbase : base ≤ w.heap.size) (b of : Nat) (it : Ea.Item) (hx : a.eval x = .slice (some ⟨b, of, none⟩) 1 1) (hr : w.rangeAt b of (itemList it)) (hn : n ≤ 600)
    (h : ∀ g' c' row V, V.ownsRow base 37 9 (.slice (some ⟨g', 0, none⟩) (n + 1) c') (n + 1) (flatQ (xs ++ [it])) → w.grownBy V row → (∀ k, row = some k → 0 < n ∧ la = some ⟨k, 0, none⟩) → K (a.put o.dst (.slice (some ⟨g', 0, none⟩) (n + 1) c')) V) : if wn = true then Oper.wp Tryd.prog o a w K Q else hgd := by
  rw [if_pos hw]
  exact wp_add_item s x ho hs hk hbase b of it hx hr hn h
/-- What a growing list leaves alone. -/
theorem OwnL.row_ne {w : World} {base : Nat} {a : Option Addr} {n c : Nat} {xs : List Ea.Item} (h : OwnL w base a n c xs) {row : Option Nat} (hrow : ∀ k, row = some k → 0 < n ∧ a = some ⟨k, 0, none⟩) {k j m d : Nat} {b : Option Addr} (hj : j < 6) (hc : w.cell? ⟨k, j, none⟩ = some (.slice b m d)) : some k ≠ row := by
  intro e
  obtain ⟨h0, rfl⟩ := hrow k e.symm
  rcases h with ⟨h1, _⟩ | ⟨_, h⟩
  · omega
  · exact own_apart h h0 hj hc rfl
theorem OwnL.row_low {w : World} {base : Nat} {a : Option Addr} {n c : Nat} {xs : List Ea.Item} (h : OwnL w base a n c xs) {row : Option Nat} (hrow : ∀ k, row = some k → 0 < n ∧ a = some ⟨k, 0, none⟩) : ∀ k, row = some k → base ≤ k := by
  intro k e
  obtain ⟨h0, rfl⟩ := hrow k e
  obtain ⟨g, e1, h1, _⟩ := h.head h0
  injection e1 with e1
  injection e1 with e1
  omega
theorem blk_thru {W wa V : World} {g : Nat} {cs : List Value} {row : Option Nat} (h : Blk W g cs) (hg : wa.grownBy V row) (hne : some g ≠ row) (hb : Below W.heap.size W wa) : Blk V g cs := (h.below hb).kept hg hne
theorem OwnL.kept' {W V : World} {base g : Nat} {a : Option Addr} {n c : Nat} {xs : List Ea.Item} (h : OwnL W base a n c xs) (hg : W.grownBy V (some g)) {j m d : Nat} {b : Option Addr} (hj : j < 6) (hc : W.cell? ⟨g, j, none⟩ = some (.slice b m d)) : OwnL V base a n c xs := by
  refine h.kept hg ?_
  rintro ad rfl h0 e
  injection e with e
  obtain ⟨g', e1, _, _⟩ := h.head h0
  injection e1 with e1
  subst e1
  rcases h with ⟨h1, _⟩ | ⟨_, h⟩
  · omega
  · exact own_apart h h0 hj hc e
theorem below_grown {w W V : World} {row : Option Nat} (h : Below w.heap.size w W) (hg : W.grownBy V row) (hr : ∀ k, row = some k → w.heap.size ≤ k) : Below w.heap.size w V :=
  ⟨hg.os.trans h.os, hg.tape.trans h.tape, hg.output.trans h.output, Nat.le_trans h.size hg.size, fun k hk => (hg.block k (Nat.lt_of_lt_of_le hk h.size) (fun e => by have := hr k e.symm; omega)).trans (h.block k hk)⟩
/-- One result, that lies in memory. -/
theorem results_c {P : Program} {fn : Func} {t : TypeId} {a : Nat} (h : fn.results = #[.cell a t]) {tmps : Array Value} {w : World} {ad : Addr} {v : Value} (ha : tmps.getD a undef = .pointer (some ad)) (hl : (loadVar t ad).run P w = .ok v w) :
    (results fn tmps).run P w = .ok v w := by
  unfold results
  rw [h]
  have ha' : tmps[a]?.getD undef = .pointer (some ad) := by simpa using ha
  simp [ha', asAddr, hl]
/-- Three results, of which the first lies in memory. -/
theorem results_c11 {P : Program} {fn : Func} {t : TypeId} {a i j : Nat} (h : fn.results = #[.cell a t, .tmp i, .tmp j]) {tmps : Array Value} {w : World} {ad : Addr} {v : Value} (ha : tmps.getD a undef = .pointer (some ad)) (hl : (loadVar t ad).run P w = .ok v w) :
    (results fn tmps).run P w = .ok (.tuple #[v, tmps.getD i undef, tmps.getD j undef]) w := by
  unfold results
  rw [h]
  have ha' : tmps[a]?.getD undef = .pointer (some ad) := by simpa using ha
  simp [ha', asAddr, hl]
/-- Five results, of which the first two lie in memory. -/
theorem results_cc111 {P : Program} {fn : Func} {t u : TypeId} {a b i j k : Nat} (h : fn.results = #[.cell a t, .cell b u, .tmp i, .tmp j, .tmp k]) {tmps : Array Value} {w : World} {ad ad' : Addr} {v v' : Value} (ha : tmps.getD a undef = .pointer (some ad)) (hb : tmps.getD b undef = .pointer (some ad')) (hl : (loadVar t ad).run P w = .ok v w) (hl' : (loadVar u ad').run P w = .ok v' w) :
    (results fn tmps).run P w = .ok (.tuple #[v, v', tmps.getD i undef, tmps.getD j undef, tmps.getD k undef]) w := by
  unfold results
  rw [h]
  have ha' : tmps[a]?.getD undef = .pointer (some ad) := by simpa using ha
  have hb' : tmps[b]?.getD undef = .pointer (some ad') := by simpa using hb
  simp [ha', hb', asAddr, hl, hl']
theorem OwnL.cap {w : World} {base : Nat} {a : Option Addr} {n c : Nat} {xs : List Ea.Item} (h : OwnL w base a n c xs) : n ≤ c := by
  rcases h with ⟨rfl, rfl, _⟩ | ⟨_, h⟩
  · exact Nat.le_refl _
  · rcases h.2 with ⟨hv, h0⟩ | ⟨g, cap, cur, hv, _, _, h1, _⟩
    · omega
    · injection hv with e1 e2 e3
      omega
theorem pktList_one (p : Ea.Pkt) : ∀ u, u ∈ pktList p → u.oneCell' = true := by
  intro u hu
  simp only [pktList, List.mem_cons, List.not_mem_nil, or_false] at hu
  rcases hu with rfl | rfl | rfl | rfl | rfl | rfl | rfl | rfl <;> rfl
end Go.Proofs.YtfeemiamjmmolaaDoor
