/- The statement RouteLinks: it returns true, whatever the input, and leaves what was in memory alone. -/
import Derived.Test.YtjjplcjinhcpiaaRoCopy
import Derived.Test.YtjjplcjinhcpiaaRoPar
import Derived.Deep.RegionHeld
namespace Go.Proofs.Ytjjplcjinhcpiaa
open Go.RowKit

/-- A trip depends only on the links of its path. -/
theorem trip_same {links links' : List (Int × Int)} {ls : List Int} {back size n : Int} (h : Ro.trip links ls back size = (n, 0)) (hlen : links.length ≤ links'.length) (h8 : links'.length ≤ 8)
    (hw : ∀ x, x ∈ ls → links'.getD x.toNat (0, 0) = links.getD x.toNat (0, 0)) : Ro.trip links' ls back size = (n, 0) := by
  obtain ⟨h1, h2, h3, h4⟩ := trip_err (links := links) (ls := ls) (back := back) (size := size) (by rw [h])
  obtain ⟨k1, k2, k3, k4, k5⟩ := Ro.check_one h2
  have hc : Ro.check links'.length [(ls, back)] = 0 := check_mk ((Ro.inside_iff _ _ _).2 ⟨by omega, by omega⟩) k2 (fun x hx => by
    have := k3 x hx
    rw [Ro.inside_iff] at this ⊢
    omega) k4 k5
  rw [List.all_eq_true] at h3
  rw [Ro.trip_ok h1 hc, if_pos (List.all_eq_true.2 (fun x hx => by rw [hw x hx]; exact h3 x hx))]
  rw [h] at h4
  injection h4 with h4 _
  rw [h4, List.map_congr_left (fun x hx => by rw [hw x hx])]

def setMany : List Value → Nat → List Value → List Value
  | xs, _, [] => xs
  | xs, o, v :: r => setMany (xs.set o v) (o + 1) r
theorem setMany_get : ∀ (vs xs : List Value) (o j : Nat), o + vs.length ≤ xs.length → (setMany xs o vs)[j]? = if o ≤ j ∧ j < o + vs.length then vs[j - o]? else xs[j]?
  | [], xs, o, j, _ => by
    rw [setMany, if_neg (by simp only [List.length_nil]; omega)]
  | v :: r, xs, o, j, h => by
    simp only [List.length_cons] at h
    rw [setMany, setMany_get r (xs.set o v) (o + 1) j (by rw [List.length_set]; omega)]
    by_cases h1 : j = o
    · subst h1
      rw [if_neg (by omega), if_pos (by simp), Nat.sub_self, List.getElem?_set, if_pos rfl, if_pos (by omega)]
      rfl
    · by_cases h2 : o + 1 ≤ j ∧ j < o + 1 + r.length
      · rw [if_pos h2, if_pos (by simp only [List.length_cons]; omega), show j - o = (j - (o + 1)) + 1 by omega, List.getElem?_cons_succ]
      · rw [if_neg h2, if_neg (by simp only [List.length_cons]; omega), List.getElem?_set_ne (by omega)]
theorem own_setMany {base g n cap : Nat} : ∀ (vs xs : List Value) (o : Nat) (w : World), w.ownsRow base 53 27 (.slice (some ⟨g, 0, none⟩) n cap) n xs → (w.setCells g o vs).ownsRow base 53 27 (.slice (some ⟨g, 0, none⟩) n cap) n (setMany xs o vs)
  | [], _, _, _, h => h
  | v :: r, xs, o, _, h => own_setMany r (xs.set o v) (o + 1) _ (h.stored o v).1
theorem below_setMany {B g : Nat} {w0 : World} (hg : B ≤ g) : ∀ (vs : List Value) (o : Nat) (w : World), Below B w0 w → Below B w0 (w.setCells g o vs)
  | [], _, _, h => h
  | v :: r, o, _, h => below_setMany hg r (o + 1) _ (h.setCell (p := ⟨g, o, none⟩) hg v)
theorem cell_setMany {w : World} {g : Nat} (vs : List Value) (o : Nat) {a : Addr} {v : Value} (h : w.cell? a = some v) (hne : a.block ≠ g) : (w.setCells g o vs).cell? a = some v := by
  rw [World.cell?_setCells_out g vs o w a (fun e => absurd e hne)]
  exact h
theorem flatK_setMany (n : Nat) (K : Nat → LinkV) (i : Nat) (hi : i < n) (L : LinkV) : setMany (flatK n K) (i * 27) (linkList L.r L.d L.X) = flatK n (updK K i L) := by
  apply List.ext_getElem?
  intro j
  have hl : (linkList L.r L.d L.X).length = 27 := rfl
  rw [setMany_get _ _ _ _ (by rw [flatK_length, hl]; omega), hl]
  by_cases hj : j < n * 27
  · rw [flatK_get _ _ _ hj, flatK_get _ _ _ hj]
    unfold updK
    by_cases e : i * 27 ≤ j ∧ j < i * 27 + 27
    · have e1 : j / 27 = i := by omega
      have e2 : j % 27 = j - i * 27 := by omega
      rw [if_pos e, if_pos e1, e2, cellK_get _ _ (by omega)]
    · rw [if_neg e, if_neg (by omega)]
  · rw [if_neg (by omega), List.getElem?_eq_none (by rw [flatK_length]; omega), List.getElem?_eq_none (by rw [flatK_length]; omega)]
theorem flatK_more (n : Nat) (K : Nat → LinkV) (L : LinkV) : flatK n K ++ linkList L.r L.d L.X = flatK (n + 1) (updK K n L) := by
  apply List.ext_getElem?
  intro j
  have hl : (linkList L.r L.d L.X).length = 27 := rfl
  by_cases hj : j < n * 27
  · rw [List.getElem?_append_left (by rw [flatK_length]; exact hj), flatK_get _ _ _ hj, flatK_get _ _ _ (by omega)]
    unfold updK
    rw [if_neg (by omega)]
  · rw [List.getElem?_append_right (by rw [flatK_length]; omega), flatK_length]
    by_cases h2 : j < (n + 1) * 27
    · rw [flatK_get _ _ _ h2]
      unfold updK
      have e1 : j / 27 = n := by omega
      have e2 : j % 27 = j - n * 27 := by omega
      rw [if_pos e1, e2, cellK_get _ _ (by omega)]
    · rw [List.getElem?_eq_none (by rw [hl]; omega), List.getElem?_eq_none (by rw [flatK_length]; omega)]
theorem oneK_mem {L : LinkV} (h : oneK L) : ∀ u, u ∈ linkList L.r L.d L.X → u.oneCell' = true := fun u hu => Array.all_eq_true_iff_forall_mem.1 h u (List.mem_toArray.2 hu)
theorem own_there {w : World} {base g n cap : Nat} {xs : List Value} (h : w.ownsRow base 53 27 (.slice (some ⟨g, 0, none⟩) n cap) n xs) (i : Nat) (hi : i < n) : w.there g (i * 27) 27 := fun j hj =>
  ⟨by rw [h.cellAt _ (by omega), List.getElem?_eq_getElem (by rw [h.1]; omega)]; rfl, h.frozenAt _⟩
/-- One link more behind the copy. -/
theorem grow_link {o : Oper} {a : Act} {w : World} {K : Act → World → Prop} {Q : Exit → Act → World → Prop} {base g ln cap B : Nat} {G : Nat → LinkV} {L : LinkV} (s x : Operand) (ho : o.op = .call { callee := .builtin .append, args := #[s, x], argTypes := #[22, 22] })
    (hs : a.eval s = .slice (some ⟨g, 0, none⟩) ln cap) (hx : a.eval x = .slice (some ⟨B, 0, none⟩) 1 1) (hown : w.ownsRow base 53 27 (.slice (some ⟨g, 0, none⟩) ln cap) ln (flatK ln G)) (hr : w.rangeAt B 0 (linkList L.r L.d L.X)) (h1 : oneK L) (h8 : ln < 8) (hbase : base ≤ w.heap.size)
    (h : ∀ g' cap' V, V.ownsRow base 53 27 (.slice (some ⟨g', 0, none⟩) (ln + 1) cap') (ln + 1) (flatK (ln + 1) (updK G ln L)) → w.grownBy V (some g) → K (a.put o.dst (.slice (some ⟨g', 0, none⟩) (ln + 1) cap')) V) : o.wp Try.prog a w K Q := by
  obtain ⟨i0, hi, hz0, hz1, hz2⟩ := info_parts info_link
  obtain ⟨v', V, hrun, h2, h3, _⟩ := run_append_own (P := Try.prog) w base 22 o.type 53 i0 (linkVal 0 0 zeroX) 27 224 Try.underlying22 hi hz0 hz1 hz2 rfl (by decide) (.slice (some ⟨g, 0, none⟩) ln cap) ln (flatK ln G) hown ⟨B, 0, none⟩ 1 1 (linkList L.r L.d L.X) rfl
    (fun j u hj => by rw [Addr.add_mid]; exact hr j u hj) (oneK_mem h1) (by unfold maxLen; omega) (by omega) hbase
  rw [flatK_more] at h2
  unfold Oper.wp execOp
  simp only [ho, resolve, invoke, builtin, Sem.run_bind, Sem.run_pure, Result.andThen_ok, List.map_toArray, List.map_cons, List.map_nil, hs, hx, hrun]
  rcases h2.2 with ⟨_, h5⟩ | ⟨g', cap', cur, rfl, _⟩
  · omega
  · exact h g' cap' V h2 h3

/-- One link of the copy is another one. -/
theorem put_link {ops : Array Oper} {rest : List Oper} {op : Oper} {a : Act} {w : World} {Q : Exit → Act → World → Prop} {base g n cap kk : Nat} {K : Nat → LinkV} {L : LinkV} (hgd : op.guard = none) (x y : Operand) (ho : op.op = .store 53 x y) (hx : a.eval x = .pointer (some ⟨g, kk * 27, none⟩)) (hy : a.eval y = .agg (linkList L.r L.d L.X).toArray)
    (hown : w.ownsRow base 53 27 (.slice (some ⟨g, 0, none⟩) n cap) n (flatK n K)) (hk : kk < n) (h1 : oneK L)
    (h : ∀ V, V.ownsRow base 53 27 (.slice (some ⟨g, 0, none⟩) n cap) n (flatK n (updK K kk L)) → (∀ a v, a.block ≠ g → w.cell? a = some v → V.cell? a = some v) → (∀ a, V.frozen? a = w.frozen? a) → (∀ B w0, B ≤ g → Below B w0 w → Below B w0 V) → wpList Try.prog ops Q rest (a.put op.dst undef) V) :
    wpList Try.prog ops Q (op :: rest) a w := by
  refine wpList_store_mid hgd 53 x y ho g (kk * 27) (linkList L.r L.d L.X).toArray hx hy (own_there hown kk hk) (by kernel_rfl) h1 ?_
  refine h _ ?_ (fun a v hne hc => cell_setMany _ _ hc hne) (fun a => World.frozen?_setCells _ _ _ _ _) (fun B w0 hB hb => below_setMany hB _ _ _ hb)
  have := own_setMany (linkList L.r L.d L.X) (flatK n K) (kk * 27) w hown
  rw [flatK_setMany n K kk hk L] at this
  exact this
theorem own_below27 {w w1 : World} {base e n : Nat} {v : Value} {xs : List Value} (h : w.ownsRow base e 27 v n xs) (hb : Below w.heap.size w w1) : w1.ownsRow base e 27 v n xs :=
  h.kept (row := some w.heap.size) ⟨hb.os, hb.tape, hb.output, hb.size, fun i hi _ => hb.block i hi⟩ (by
    cases hv : v.ownBlock with
    | none => exact Or.inl rfl
    | some j => exact Or.inr (fun hc => by injection hc with hc; have := (h.lt j hv).2; omega))
theorem links_same {ks : List LinkV} {G : Nat → LinkV} {n m : Nat} (hm : ks.length = m) (hG : ∀ i, i < m → i < n) {pls : List Int} (hin : ∀ x, x ∈ pls → Ro.inside x 0 ((m : Int) - 1) = true) (hs : ∀ i : Nat, (i : Int) ∈ pls → G i = ks.getD i default) :
    ∀ x, x ∈ pls → (((List.range n).map G).map LinkV.plain).getD x.toNat (0, 0) = (ks.map LinkV.plain).getD x.toNat (0, 0) := fun x hx => by
  have h := hin x hx
  rw [Ro.inside_iff] at h
  obtain ⟨i, rfl⟩ : ∃ i : Nat, x = i := ⟨x.toNat, by omega⟩
  have hi : i < m := by omega
  have hil : i < ks.length := by omega
  rw [Int.toNat_natCast, List.getD_eq_getElem?_getD, List.getD_eq_getElem?_getD, List.getElem?_map, List.getElem?_map, List.getElem?_range (hG i hi), List.getElem?_map, List.getElem?_eq_getElem hil]
  show LinkV.plain (G i) = LinkV.plain ks[i]
  rw [hs i hx, List.getD_eq_getElem?_getD, List.getElem?_eq_getElem hil]
  rfl

set_option maxHeartbeats 2000000 in
set_option maxRecDepth 100000 in
theorem links_entry (la : Option Addr) (ln lc : Nat) (ks : List LinkV) (pa : Option Addr) (pl pc : Nat) (pls : List Int) (pb : Int) (pu : Bool) (size : Int) (L : LinkV) (which : Int) (w : World) (hk : RdK w la ln ks) (_hkm : (ln : Int) ≤ 9223372036854775807) (hl : RdI w .i64 pa pl pls) (hlm : (pl : Int) ≤ 9223372036854775807) (_ws : (Lit.int .i64 size).wf = true) (hone : oneK L) (ww : (Lit.int .u8 which).wf = true) :
    Calls Try.prog 9 #[.slice la ln lc, .agg #[.slice pa pl pc, .int .i64 pb, .bool pu], .int .i64 size, linkVal L.r L.d L.X, .int .u8 which] w fun e w' => e = .returned (.bool true) ∧ Below w.heap.size w w' := by
  obtain ⟨c0, c1⟩ := wf_u8' ww
  have HK := Lib.hid hk
  have HL := Lib.hid hl
  have hz := hl.1
  have HZ := Lib.hid hz
  have HONE := Lib.hid hone
  clear hk hl ww hz hone
  obtain ⟨⟨n, e⟩, ht⟩ : ∃ t, Ro.trip (ks.map LinkV.plain) pls pb size = t := ⟨_, rfl⟩
  have HT := Lib.hid ht
  clear ht
  obtain ⟨r, d, X⟩ := L
  go_enter Try.func9, Try.ntmps9
  go_wp2_with fail
  refine (head_ok _).mono ?_
  rintro e w1 ⟨rfl, hb_w1⟩
  have hB_w1 : Below w.heap.size w w1 := below_on (by (repeat (first | assumption | exact Below.refl _ _ | refine below_set ?_ (by first | omega | (simp; done) | (simp; omega)) _ | refine below_drawn ?_ | refine below_drawnN ?_ _ | refine below_new ?_ _))) hb_w1
  have hz_w1 := hb_w1.size
  try simp only [World.size_setCell] at hz_w1
  try simp only [World.size_drew] at hz_w1
  try simp only [World.size_drewN] at hz_w1
  try simp only [World.size_alloc] at hz_w1
  try simp only [World.size_setCell] at hz_w1
  try simp only [World.size_drew] at hz_w1
  try simp only [World.size_drewN] at hz_w1
  try simp only [World.size_alloc] at hz_w1
  have hl0_w1 : w.heap.size < w1.heap.size := by omega
  have hl1_w1 : w.heap.size + 1 < w1.heap.size := by omega
  have p0_w1 : w1.cell? ⟨w.heap.size, 0, none⟩ = some (.slice pa pl pc) := below_cell_of hb_w1 (by first | (go_simp; done) | (refine below_cell_of (w := w) ?_ (by first | assumption | (go_simp; done)); (repeat (first | assumption | exact Below.refl _ _ | refine below_set ?_ (by first | omega | (simp; done) | (simp; omega)) _ | refine below_drawn ?_ | refine below_drawnN ?_ _ | refine below_new ?_ _))))
  have fzp0_w1 : w1.frozen? ⟨w.heap.size, 0, none⟩ = false := below_frozen_of hb_w1 (by first | omega | (simp; done) | (simp; omega)) (by first | (go_simp; done))
  have p1_w1 : w1.cell? ⟨w.heap.size, 1, none⟩ = some (.int .i64 pb) := below_cell_of hb_w1 (by first | (go_simp; done) | (refine below_cell_of (w := w) ?_ (by first | assumption | (go_simp; done)); (repeat (first | assumption | exact Below.refl _ _ | refine below_set ?_ (by first | omega | (simp; done) | (simp; omega)) _ | refine below_drawn ?_ | refine below_drawnN ?_ _ | refine below_new ?_ _))))
  have fzp1_w1 : w1.frozen? ⟨w.heap.size, 1, none⟩ = false := below_frozen_of hb_w1 (by first | omega | (simp; done) | (simp; omega)) (by first | (go_simp; done))
  have p2_w1 : w1.cell? ⟨w.heap.size, 2, none⟩ = some (.bool pu) := below_cell_of hb_w1 (by first | (go_simp; done) | (refine below_cell_of (w := w) ?_ (by first | assumption | (go_simp; done)); (repeat (first | assumption | exact Below.refl _ _ | refine below_set ?_ (by first | omega | (simp; done) | (simp; omega)) _ | refine below_drawn ?_ | refine below_drawnN ?_ _ | refine below_new ?_ _))))
  have fzp2_w1 : w1.frozen? ⟨w.heap.size, 2, none⟩ = false := below_frozen_of hb_w1 (by first | omega | (simp; done) | (simp; omega)) (by first | (go_simp; done))
  have o0_w1 : w1.cell? ⟨w.heap.size + 1, 0, none⟩ = some (.int .i64 r) := below_cell_of hb_w1 (by first | (go_simp; done) | (refine below_cell_of (w := w) ?_ (by first | assumption | (go_simp; done)); (repeat (first | assumption | exact Below.refl _ _ | refine below_set ?_ (by first | omega | (simp; done) | (simp; omega)) _ | refine below_drawn ?_ | refine below_drawnN ?_ _ | refine below_new ?_ _))))
  have hR1 := rangeAt_below (range_new (w.alloc (.cells #[.slice pa pl pc, .int .i64 pb, .bool pu] 26)) [] (linkList r d X) [] 53) hb_w1
  rw [World.size_alloc] at hR1
  have HR1 : RowKit.Hid (w1.rangeAt (w.heap.size + 1) 0 (linkList r d X)) := Lib.hid hR1
  clear hR1
  by_cases h20 : ln ≤ 20 ∧ pl ≤ 20
  · obtain ⟨hln, hpl⟩ := h20
    go_wp2_with fail
    refine (few_any la ln lc (some ⟨w1.heap.size, 0, none⟩) 1 1 [⟨pa, pl, pc, pls, pb, pu⟩] _ (rdP_one (by go_simp) (by go_simp) (by go_simp) ⟨HL.out.below (below_new hB_w1 _), hlm⟩) (by omega)).mono ?_
    rw [fewB_one2, show decide (ln ≤ 20) = true from decide_eq_true hln, show decide ((PathV.mk pa pl pc pls pb pu).len ≤ 20) = true from decide_eq_true hpl]
    rintro e' w1' ⟨rfl, rfl⟩
    go_wp2_with fail
    refine (trip_any la ln lc ks pa pl pc pls pb pu size _ (HK.out.below (below_new hB_w1 _)) (HL.out.below (below_new hB_w1 _)) (by omega)).mono ?_
    rw [HT.out]
    rintro e w2 ⟨rfl, hb_w2⟩
    have hB_w2 : Below w.heap.size w w2 := below_on (by first | ((repeat (first | assumption | exact Below.refl _ _ | refine below_set ?_ (by first | omega | (simp; done) | (simp; omega)) _ | refine below_drawn ?_ | refine below_drawnN ?_ _ | refine below_new ?_ _)); done) | (refine below_on hB_w1 ?_; (repeat (first | assumption | exact Below.refl _ _ | refine below_set ?_ (by first | omega | (simp; done) | (simp; omega)) _ | refine below_drawn ?_ | refine below_drawnN ?_ _ | refine below_new ?_ _)))) hb_w2
    have hz_w2 := hb_w2.size
    try simp only [World.size_setCell] at hz_w2
    try simp only [World.size_drew] at hz_w2
    try simp only [World.size_drewN] at hz_w2
    try simp only [World.size_alloc] at hz_w2
    try simp only [World.size_setCell] at hz_w2
    try simp only [World.size_drew] at hz_w2
    try simp only [World.size_drewN] at hz_w2
    try simp only [World.size_alloc] at hz_w2
    have hl0_w2 : w.heap.size < w2.heap.size := by omega
    have hl1_w2 : w.heap.size + 1 < w2.heap.size := by omega
    have p0_w2 : w2.cell? ⟨w.heap.size, 0, none⟩ = some (.slice pa pl pc) := below_cell_of hb_w2 (by first | (go_simp; done) | (refine below_cell_of (w := w1) ?_ (by first | assumption | (go_simp; done)); (repeat (first | assumption | exact Below.refl _ _ | refine below_set ?_ (by first | omega | (simp; done) | (simp; omega)) _ | refine below_drawn ?_ | refine below_drawnN ?_ _ | refine below_new ?_ _))))
    have fzp0_w2 : w2.frozen? ⟨w.heap.size, 0, none⟩ = false := below_frozen_of hb_w2 (by first | omega | (simp; done) | (simp; omega)) (by first | (go_simp; done) | (refine below_frozen_of (w := w1) ?_ (by omega) (by first | assumption | (go_simp; done)); (repeat (first | assumption | exact Below.refl _ _ | refine below_set ?_ (by first | omega | (simp; done) | (simp; omega)) _ | refine below_drawn ?_ | refine below_drawnN ?_ _ | refine below_new ?_ _))))
    have p1_w2 : w2.cell? ⟨w.heap.size, 1, none⟩ = some (.int .i64 pb) := below_cell_of hb_w2 (by first | (go_simp; done) | (refine below_cell_of (w := w1) ?_ (by first | assumption | (go_simp; done)); (repeat (first | assumption | exact Below.refl _ _ | refine below_set ?_ (by first | omega | (simp; done) | (simp; omega)) _ | refine below_drawn ?_ | refine below_drawnN ?_ _ | refine below_new ?_ _))))
    have fzp1_w2 : w2.frozen? ⟨w.heap.size, 1, none⟩ = false := below_frozen_of hb_w2 (by first | omega | (simp; done) | (simp; omega)) (by first | (go_simp; done) | (refine below_frozen_of (w := w1) ?_ (by omega) (by first | assumption | (go_simp; done)); (repeat (first | assumption | exact Below.refl _ _ | refine below_set ?_ (by first | omega | (simp; done) | (simp; omega)) _ | refine below_drawn ?_ | refine below_drawnN ?_ _ | refine below_new ?_ _))))
    have p2_w2 : w2.cell? ⟨w.heap.size, 2, none⟩ = some (.bool pu) := below_cell_of hb_w2 (by first | (go_simp; done) | (refine below_cell_of (w := w1) ?_ (by first | assumption | (go_simp; done)); (repeat (first | assumption | exact Below.refl _ _ | refine below_set ?_ (by first | omega | (simp; done) | (simp; omega)) _ | refine below_drawn ?_ | refine below_drawnN ?_ _ | refine below_new ?_ _))))
    have fzp2_w2 : w2.frozen? ⟨w.heap.size, 2, none⟩ = false := below_frozen_of hb_w2 (by first | omega | (simp; done) | (simp; omega)) (by first | (go_simp; done) | (refine below_frozen_of (w := w1) ?_ (by omega) (by first | assumption | (go_simp; done)); (repeat (first | assumption | exact Below.refl _ _ | refine below_set ?_ (by first | omega | (simp; done) | (simp; omega)) _ | refine below_drawn ?_ | refine below_drawnN ?_ _ | refine below_new ?_ _))))
    have o0_w2 : w2.cell? ⟨w.heap.size + 1, 0, none⟩ = some (.int .i64 r) := below_cell_of hb_w2 (by first | (go_simp; done) | (refine below_cell_of (w := w1) ?_ (by first | assumption | (go_simp; done)); (repeat (first | assumption | exact Below.refl _ _ | refine below_set ?_ (by first | omega | (simp; done) | (simp; omega)) _ | refine below_drawn ?_ | refine below_drawnN ?_ _ | refine below_new ?_ _))))
    have HR2 := Lib.hid (rangeAt_below (rangeAt_below HR1.out (below_new (Below.refl _ _) _)) hb_w2)
    by_cases he : e = 0
    · subst he
      obtain ⟨hsz, hck, hfin, htv⟩ := trip_err (links := ks.map LinkV.plain) (ls := pls) (back := pb) (size := size) (by rw [HT.out])
      obtain ⟨hm8, hl6, hall, hnd, hbk⟩ := Ro.check_one hck
      rw [List.length_map, HK.out.1] at hm8 hall
      obtain ⟨_, hm8⟩ := (Ro.inside_iff _ _ _).1 hm8
      obtain ⟨hl1', hl6⟩ := (Ro.inside_iff _ _ _).1 hl6
      rw [HZ.out] at hl1' hl6
      have HALL := Lib.hid hall
      clear hck hfin htv hall hnd hbk hsz
      have hln1 : 1 ≤ ln := by
        have := HALL.out _ (HL.out.mem (i := 0) (by omega))
        rw [Ro.inside_iff] at this
        omega
      have HK2 := Lib.hid (HK.out.below hB_w2)
      have hlz : ¬ (ln : Int) = 0 := by omega
      obtain ⟨kk, hkk⟩ : ∃ q : Nat, which % (ln : Int) = q := by
        refine ⟨(which % (ln : Int)).toNat, ?_⟩
        have := Int.emod_nonneg which (show (ln : Int) ≠ 0 by omega)
        omega
      have hkl : kk < ln := by
        have := Int.emod_lt_of_pos which (show 0 < (ln : Int) by omega)
        omega
      go_wp2_with (refine copy_links rfl _ _ rfl rfl rfl HK2.out hln1 hln ?_; intro g cap V hown hbel hgb; have q0 := below_cell_of hbel p0_w2; have q1 := below_cell_of hbel p1_w2; have q2 := below_cell_of hbel p2_w2; have fq2 := below_frozen_of hbel hl0_w2 fzp2_w2)
      have HOWN := Lib.hid hown
      have hBV := below_on hB_w2 hbel
      have HBV := Lib.hid hBV
      have hVz := hbel.size
      have HRV := Lib.hid (rangeAt_below HR2.out hbel)
      clear hown hbel hBV
      go_loopw [16, 56] (fun v i wr => ∃ j : Nat, j ≤ pl ∧ i = .int .i64 j ∧ v = .bool (decide ((kk : Int) ∈ pls.take j)) ∧ V = wr) (fun _ i _ => pl - (intOf i).toNat)
      case atStart => exact ⟨0, Nat.zero_le _, rfl, by simp, rfl⟩
      case round =>
        obtain ⟨j, hj, rfl, rfl, rfl⟩ := hrel
        by_cases hjl : j < pl
        · obtain ⟨ad, rfl, hc⟩ := (HL.out.below HBV.out).2 j hjl
          have hts : pls.take (j + 1) = pls.take j ++ [pls.getD j 0] := by
            rw [List.take_add_one, List.getD_eq_getElem?_getD, List.getElem?_eq_getElem (by have := HZ.out; omega)]
            rfl
          have hmem : (kk : Int) ∈ pls.take (j + 1) ↔ (kk : Int) ∈ pls.take j ∨ (kk : Int) = pls.getD j 0 := by rw [hts, List.mem_append, List.mem_singleton]
          obtain ⟨z, hzz⟩ : ∃ z, pls.getD j 0 = z := ⟨_, rfl⟩
          rw [hzz] at hc hmem
          have HMEM := Lib.hid hmem
          obtain ⟨h, hh⟩ : ∃ h : Bool, decide ((kk : Int) ∈ pls.take j) = h := ⟨_, rfl⟩
          rw [hh]
          have HH := Lib.hid hh
          clear hmem hts hzz hh
          cases h with
          | true =>
            go_wp2
            go_roundw
            case rel => exact ⟨j + 1, by omega, by go_num, by rw [decide_eq_true (HMEM.out.2 (.inl (of_decide_eq_true HH.out)))], by first | rfl | trivial⟩
            case measure => simp [intOf]; omega
          | false =>
            by_cases hzk : z = (kk : Int)
            · subst hzk
              go_wp2
              go_roundw
              case rel => exact ⟨j + 1, by omega, by go_num, by rw [decide_eq_true (HMEM.out.2 (Or.inr (by first | rfl | trivial)))], by first | rfl | trivial⟩
              case measure => simp [intOf]; omega
            · go_wp2
              go_roundw
              case rel => exact ⟨j + 1, by omega, by go_num, by rw [decide_eq_false (fun hx => (HMEM.out.1 hx).elim (fun h1 => of_decide_eq_false HH.out h1) (fun h1 => hzk h1.symm))]; simp [hzk], by first | rfl | trivial⟩
              case measure => simp [intOf]; omega
        · obtain rfl : j = pl := by omega
          rw [List.take_of_length_le (by have := HZ.out; omega)]
          have hgw : w.heap.size ≠ g := by omega
          have hgw1 : w.heap.size + 1 ≠ g := by omega
          by_cases hon : (kk : Int) ∈ pls
          · rw [decide_eq_true hon]
            have OWN := HOWN
            have BEL := HBV
            have RNG := HRV
            have hsm : ∀ i : Nat, (i : Int) ∈ pls → (fun i => ks.getD i default) i = ks.getD i default := fun i _ => rfl
            have hoG : ∀ i, i < ln → oneK ((fun i => ks.getD i default) i) := fun i hi => by
              obtain ⟨_, _, _, _, h⟩ := HK.out.2 i hi
              exact h
            have hts := trip_same (links' := ((List.range ln).map (fun i => ks.getD i default)).map LinkV.plain) HT.out (by simp [HK.out.1]) (by simp; omega) (links_same (n := ln) HK.out.1 (fun i hi => hi) HALL.out hsm)
            have hts2 := fun (h8 : ln < 8) => trip_same (links' := ((List.range (ln + 1)).map (updK (fun i => ks.getD i default) ln ⟨r, d, X⟩)).map LinkV.plain) HT.out (by simp [HK.out.1]) (by simp; omega) (links_same (G := updK (fun i => ks.getD i default) ln ⟨r, d, X⟩) (n := ln + 1) HK.out.1 (fun i hi => by omega) HALL.out (fun i hi => by
              have h := HALL.out _ hi
              rw [Ro.inside_iff] at h
              exact (if_neg (by omega)).trans (hsm i hi)))
            have hoG2 : ∀ i, i < ln + 1 → oneK (updK (fun i => ks.getD i default) ln ⟨r, d, X⟩ i) := fun i hi => by
              unfold updK
              by_cases e : i = ln
              · rw [if_pos e]; exact HONE.out
              · rw [if_neg e]; exact hoG i (by omega)
            have HTS := Lib.hid hts
            have HTS2 := Lib.hid hts2
            have HOG := Lib.hid hoG
            have HOG2 := Lib.hid hoG2
            clear hsm hts hts2 hoG hoG2
            have own3 := Lib.hid (ownsRow_setCell_below OWN.out (a := ⟨w.heap.size, 2, none⟩) (by simp only; omega) (.bool (!pu)))
            have bel3 := Lib.hid (below_set BEL.out (p := ⟨w.heap.size, 2, none⟩) (Nat.le_refl _) (.bool (!pu)))
            have rng3 := Lib.hid (fun (j : Nat) (v : Value) (hv : (linkList r d X)[j]? = some v) => cell_set_ne (p := ⟨w.heap.size, 2, none⟩) (u := .bool (!pu)) (RNG.out j v hv) (by show w.heap.size + 1 ≠ w.heap.size; omega))
            go_wp2_with fail
            refine (trip_any (some ⟨g, 0, none⟩) ln cap ((List.range ln).map (fun i => ks.getD i default)) pa j pc pls pb (!pu) size _ (own_rdK own3.out HOG.out) (HL.out.below bel3.out) (by omega)).mono ?_
            rw [HTS.out]
            rintro e' w8 ⟨rfl, hb8⟩
            have s0 := below_cell_of hb8 (a := ⟨w.heap.size, 0, none⟩) (v := .slice pa j pc) (by go_simp)
            have s1 := below_cell_of hb8 (a := ⟨w.heap.size, 1, none⟩) (v := .int .i64 pb) (by go_simp)
            have s2 := below_cell_of hb8 (a := ⟨w.heap.size, 2, none⟩) (v := .bool (!pu)) (by go_simp)
            have own8 := Lib.hid (own_below27 own3.out hb8)
            have bel8 := Lib.hid (below_on bel3.out hb8)
            have rng8 := Lib.hid (rangeAt_below (b := w.heap.size + 1) (o := 0) (cs := linkList r d X) (fun j v hv => rng3.out j v hv) hb8)
            have hz8 := hb8.size
            simp only [World.size_setCell] at hz8
            clear hb8
            by_cases h8 : ln < 8
            · go_wp2
              refine wp_region_held_drew (S := (fun W => W.cell? ⟨w.heap.size, 0, none⟩ = some (.slice pa j pc) ∧ W.cell? ⟨w.heap.size, 1, none⟩ = some (.int .i64 pb) ∧ W.cell? ⟨w.heap.size, 2, none⟩ = some (.bool (!pu)) ∧ W.rangeAt (w.heap.size + 1) 0 (linkList r d X))) (by kernel_rfl) ?_ (fun hHeld => ?_)
              · exact ⟨s0, s1, s2, rng8.out⟩
              refine wpAnyH_take (i := 1) (v := linkVal r d X) rfl (by kernel_rfl) (by kernel_rfl) (by kernel_rfl) (fun _ _ _ h => h) (yieldsIf_load_mid (by rfl) 53 (.tmp 8) rfl (w.heap.size + 1) 0 rfl (linkList r d X) _ (fun _ h => h.2.2.2) Try.underlying53 rfl (by kernel_rfl)) hHeld ?_
              try go_simp
              refine wpAnyH_take (i := 0) (v := ?_) rfl (by kernel_rfl) (by kernel_rfl) (by kernel_rfl) (fun _ _ _ h => h) (Or.inl ⟨by rfl, ?_⟩) hHeld ?_
              rotate_left
              · intro wS hSw; obtain ⟨hS0, hS1, hS2, hS3⟩ := hSw; go_simp; try with_reducible rfl
              try go_simp
              refine wpAnyH_take (i := 4) (v := ?_) rfl (by kernel_rfl) (by kernel_rfl) (by kernel_rfl) (fun _ _ _ h => h) (Or.inl ⟨by rfl, ?_⟩) hHeld ?_
              rotate_left
              · intro wS hSw; obtain ⟨hS0, hS1, hS2, hS3⟩ := hSw; go_simp; try with_reducible rfl
              try go_simp
              refine wpAnyH_take (i := 5) (v := ?_) rfl (by kernel_rfl) (by kernel_rfl) (by kernel_rfl) (fun _ _ _ h => h) (Or.inl ⟨by rfl, ?_⟩) hHeld ?_
              rotate_left
              · intro wS hSw; obtain ⟨hS0, hS1, hS2, hS3⟩ := hSw; go_simp; try with_reducible rfl
              try go_simp
              refine wpAnyH_ready (rs := [2]) (by kernel_rfl) (by simp) ?_
              refine AllReadyH.cons rfl (fun K hK => ?_) AllReadyH.nil
              go_simp
              refine hK.out _ _ ?_ (fun hHeld => ?_)
              · exact ⟨below_cell_of (below_drawn (below_new (Below.refl _ w8) _)) s0, below_cell_of (below_drawn (below_new (Below.refl _ w8) _)) s1, below_cell_of (below_drawn (below_new (Below.refl _ w8) _)) s2, rangeAt_below rng8.out (below_drawn (below_new (Below.refl _ w8) _))⟩
              clear hK K
              try go_simp
              refine wpAnyH_ready (rs := [3]) (by kernel_rfl) (by simp) ?_
              refine AllReadyH.cons rfl (fun K hK => ?_) AllReadyH.nil
              rw [if_pos (by rfl)]
              refine grow_link (L := ⟨r, d, X⟩) _ _ rfl rfl rfl (own8.out.alloc _) (range_new w8 [] (linkList r d X) [] _) HONE.out h8 (by simp; omega) ?_
              intro g9 cap9 w9 hown9 hgrow9
              have own9 := Lib.hid hown9
              have hgs : (some w.heap.size : Option Nat) ≠ some g := by simpa using hgw
              have hgs1 : (some (w.heap.size + 1) : Option Nat) ≠ some g := by simpa using hgw1
              have belq := Lib.hid ((below_drawn (below_new bel8.out _)).grown hgrow9 (by simp; omega) (fun j hj => by injection hj with hj; omega))
              refine hK.out _ _ ?_ (fun hHeld => ?_)
              · exact ⟨hgrow9.cell (below_cell_of (below_drawn (below_new (Below.refl _ w8) _)) s0) hgs, hgrow9.cell (below_cell_of (below_drawn (below_new (Below.refl _ w8) _)) s1) hgs, hgrow9.cell (below_cell_of (below_drawn (below_new (Below.refl _ w8) _)) s2) hgs, fun j v hv => hgrow9.cell (below_cell_of (below_drawn (below_new (Below.refl _ w8) _)) (rng8.out j v hv)) hgs1⟩
              clear hK K
              try go_simp
              refine wpAnyH_ready (rs := [6]) (by kernel_rfl) (by simp) ?_
              refine AllReadyH.cons rfl (fun K hK => ?_) AllReadyH.nil
              go_simp
              refine (trip_any (some ⟨g9, 0, none⟩) (ln + 1) cap9 ((List.range (ln + 1)).map (updK (fun i => ks.getD i default) ln ⟨r, d, X⟩)) pa j pc pls pb (!pu) size _ (own_rdK own9.out HOG2.out) (HL.out.below belq.out) (by omega)).mono ?_
              rw [HTS2.out h8]
              rintro e' w10 ⟨rfl, hb10⟩
              have bel9 := Lib.hid (below_on belq.out hb10)
              refine hK.out _ _ ?_ (fun hHeld => ?_)
              · exact ⟨below_cell_of hb10 hHeld.1, below_cell_of hb10 hHeld.2.1, below_cell_of hb10 hHeld.2.2.1, rangeAt_below hHeld.2.2.2 hb10⟩
              clear hK K
              try go_simp
              refine wpAnyH_take (i := 7) (v := ?_) rfl (by kernel_rfl) (by kernel_rfl) (by kernel_rfl) (fun _ _ _ h => h) (Or.inl ⟨by rfl, ?_⟩) hHeld ?_
              rotate_left
              · intro wS hSw; obtain ⟨hS0, hS1, hS2, hS3⟩ := hSw; go_simp; try with_reducible rfl
              try go_simp
              refine wpAnyH_take (i := 8) (v := ?_) rfl (by kernel_rfl) (by kernel_rfl) (by kernel_rfl) (fun _ _ _ h => h) (Or.inl ⟨by rfl, ?_⟩) hHeld ?_
              rotate_left
              · intro wS hSw; obtain ⟨hS0, hS1, hS2, hS3⟩ := hSw; go_simp; try with_reducible rfl
              try go_simp
              refine wpAnyH_take (i := 9) (v := ?_) rfl (by kernel_rfl) (by kernel_rfl) (by kernel_rfl) (fun _ _ _ h => h) (Or.inl ⟨by rfl, ?_⟩) hHeld ?_
              rotate_left
              · intro wS hSw; obtain ⟨hS0, hS1, hS2, hS3⟩ := hSw; go_simp; try with_reducible rfl
              try go_simp
              refine wpAnyH_take (i := 10) (v := ?_) rfl (by kernel_rfl) (by kernel_rfl) (by kernel_rfl) (fun _ _ _ h => h) (Or.inl ⟨by rfl, ?_⟩) hHeld ?_
              rotate_left
              · intro wS hSw; obtain ⟨hS0, hS1, hS2, hS3⟩ := hSw; go_simp; try with_reducible rfl
              try go_simp
              refine wpAnyH_take (i := 11) (v := ?_) rfl (by kernel_rfl) (by kernel_rfl) (by kernel_rfl) (fun _ _ _ h => h) (Or.inl ⟨by rfl, ?_⟩) hHeld ?_
              rotate_left
              · intro wS hSw; obtain ⟨hS0, hS1, hS2, hS3⟩ := hSw; go_simp; try with_reducible rfl
              try go_simp
              refine wpAnyH_done (by kernel_rfl) ?_ _
              clear hHeld
              go_wp2
              go_ret
              exact ⟨rfl, bel9.out⟩
            · go_wp2
              go_ret
              exact ⟨rfl, bel8.out⟩
          · rw [decide_eq_false hon]
            go_wp2_with (first | (refine wpList_load_mid rfl 53 _ rfl (w.heap.size + 1) 0 rfl (linkList r d X) _ HRV.out Try.underlying53 rfl (by kernel_rfl) ?_) | (refine put_link (L := ⟨r, d, X⟩) rfl _ _ rfl rfl rfl HOWN.out hkl HONE.out ?_; intro V2 hown2 hcell2 hfro2 hbel2; have q0' := hcell2 _ _ hgw q0; have q1' := hcell2 _ _ hgw q1; have q2' := hcell2 _ _ hgw q2; have fq2' := (hfro2 _).trans fq2) | fail)
            have hV2z := (hown2.lt g rfl).2
            have OWN := Lib.hid hown2
            have BEL := Lib.hid (hbel2 _ _ (by omega) HBV.out)
            have RNG := Lib.hid (fun (j : Nat) (v : Value) (hv : (linkList r d X)[j]? = some v) => hcell2 ⟨w.heap.size + 1, 0 + j, none⟩ v hgw1 (HRV.out j v hv))
            clear hown2 hcell2 hfro2 hbel2
            have hsm : ∀ i : Nat, (i : Int) ∈ pls → (updK (fun i => ks.getD i default) kk ⟨r, d, X⟩) i = ks.getD i default := fun i hi => by
              unfold updK
              rw [if_neg (fun e => hon (by rw [← e]; exact hi))]
            have hoG : ∀ i, i < ln → oneK ((updK (fun i => ks.getD i default) kk ⟨r, d, X⟩) i) := fun i hi => by
              unfold updK
              by_cases e : i = kk
              · rw [if_pos e]; exact HONE.out
              · rw [if_neg e]
                obtain ⟨_, _, _, _, h⟩ := HK.out.2 i hi
                exact h
            have hts := trip_same (links' := ((List.range ln).map (updK (fun i => ks.getD i default) kk ⟨r, d, X⟩)).map LinkV.plain) HT.out (by simp [HK.out.1]) (by simp; omega) (links_same (n := ln) HK.out.1 (fun i hi => hi) HALL.out hsm)
            have hts2 := fun (h8 : ln < 8) => trip_same (links' := ((List.range (ln + 1)).map (updK (updK (fun i => ks.getD i default) kk ⟨r, d, X⟩) ln ⟨r, d, X⟩)).map LinkV.plain) HT.out (by simp [HK.out.1]) (by simp; omega) (links_same (G := updK (updK (fun i => ks.getD i default) kk ⟨r, d, X⟩) ln ⟨r, d, X⟩) (n := ln + 1) HK.out.1 (fun i hi => by omega) HALL.out (fun i hi => by
              have h := HALL.out _ hi
              rw [Ro.inside_iff] at h
              exact (if_neg (by omega)).trans (hsm i hi)))
            have hoG2 : ∀ i, i < ln + 1 → oneK (updK (updK (fun i => ks.getD i default) kk ⟨r, d, X⟩) ln ⟨r, d, X⟩ i) := fun i hi => by
              unfold updK
              by_cases e : i = ln
              · rw [if_pos e]; exact HONE.out
              · rw [if_neg e]; exact hoG i (by omega)
            have HTS := Lib.hid hts
            have HTS2 := Lib.hid hts2
            have HOG := Lib.hid hoG
            have HOG2 := Lib.hid hoG2
            clear hsm hts hts2 hoG hoG2
            have own3 := Lib.hid (ownsRow_setCell_below OWN.out (a := ⟨w.heap.size, 2, none⟩) (by simp only; omega) (.bool (!pu)))
            have bel3 := Lib.hid (below_set BEL.out (p := ⟨w.heap.size, 2, none⟩) (Nat.le_refl _) (.bool (!pu)))
            have rng3 := Lib.hid (fun (j : Nat) (v : Value) (hv : (linkList r d X)[j]? = some v) => cell_set_ne (p := ⟨w.heap.size, 2, none⟩) (u := .bool (!pu)) (RNG.out j v hv) (by show w.heap.size + 1 ≠ w.heap.size; omega))

            refine (trip_any (some ⟨g, 0, none⟩) ln cap ((List.range ln).map (updK (fun i => ks.getD i default) kk ⟨r, d, X⟩)) pa j pc pls pb (!pu) size _ (own_rdK own3.out HOG.out) (HL.out.below bel3.out) (by omega)).mono ?_
            rw [HTS.out]
            rintro e' w8 ⟨rfl, hb8⟩
            have s0 := below_cell_of hb8 (a := ⟨w.heap.size, 0, none⟩) (v := .slice pa j pc) (by go_simp)
            have s1 := below_cell_of hb8 (a := ⟨w.heap.size, 1, none⟩) (v := .int .i64 pb) (by go_simp)
            have s2 := below_cell_of hb8 (a := ⟨w.heap.size, 2, none⟩) (v := .bool (!pu)) (by go_simp)
            have own8 := Lib.hid (own_below27 own3.out hb8)
            have bel8 := Lib.hid (below_on bel3.out hb8)
            have rng8 := Lib.hid (rangeAt_below (b := w.heap.size + 1) (o := 0) (cs := linkList r d X) (fun j v hv => rng3.out j v hv) hb8)
            have hz8 := hb8.size
            simp only [World.size_setCell] at hz8
            clear hb8
            by_cases h8 : ln < 8
            · go_wp2
              refine wp_region_held_drew (S := (fun W => W.cell? ⟨w.heap.size, 0, none⟩ = some (.slice pa j pc) ∧ W.cell? ⟨w.heap.size, 1, none⟩ = some (.int .i64 pb) ∧ W.cell? ⟨w.heap.size, 2, none⟩ = some (.bool (!pu)) ∧ W.rangeAt (w.heap.size + 1) 0 (linkList r d X))) (by kernel_rfl) ?_ (fun hHeld => ?_)
              · exact ⟨s0, s1, s2, rng8.out⟩
              refine wpAnyH_take (i := 1) (v := linkVal r d X) rfl (by kernel_rfl) (by kernel_rfl) (by kernel_rfl) (fun _ _ _ h => h) (yieldsIf_load_mid (by rfl) 53 (.tmp 8) rfl (w.heap.size + 1) 0 rfl (linkList r d X) _ (fun _ h => h.2.2.2) Try.underlying53 rfl (by kernel_rfl)) hHeld ?_
              try go_simp
              refine wpAnyH_take (i := 0) (v := ?_) rfl (by kernel_rfl) (by kernel_rfl) (by kernel_rfl) (fun _ _ _ h => h) (Or.inl ⟨by rfl, ?_⟩) hHeld ?_
              rotate_left
              · intro wS hSw; obtain ⟨hS0, hS1, hS2, hS3⟩ := hSw; go_simp; try with_reducible rfl
              try go_simp
              refine wpAnyH_take (i := 4) (v := ?_) rfl (by kernel_rfl) (by kernel_rfl) (by kernel_rfl) (fun _ _ _ h => h) (Or.inl ⟨by rfl, ?_⟩) hHeld ?_
              rotate_left
              · intro wS hSw; obtain ⟨hS0, hS1, hS2, hS3⟩ := hSw; go_simp; try with_reducible rfl
              try go_simp
              refine wpAnyH_take (i := 5) (v := ?_) rfl (by kernel_rfl) (by kernel_rfl) (by kernel_rfl) (fun _ _ _ h => h) (Or.inl ⟨by rfl, ?_⟩) hHeld ?_
              rotate_left
              · intro wS hSw; obtain ⟨hS0, hS1, hS2, hS3⟩ := hSw; go_simp; try with_reducible rfl
              try go_simp
              refine wpAnyH_ready (rs := [2]) (by kernel_rfl) (by simp) ?_
              refine AllReadyH.cons rfl (fun K hK => ?_) AllReadyH.nil
              go_simp
              refine hK.out _ _ ?_ (fun hHeld => ?_)
              · exact ⟨below_cell_of (below_drawn (below_new (Below.refl _ w8) _)) s0, below_cell_of (below_drawn (below_new (Below.refl _ w8) _)) s1, below_cell_of (below_drawn (below_new (Below.refl _ w8) _)) s2, rangeAt_below rng8.out (below_drawn (below_new (Below.refl _ w8) _))⟩
              clear hK K
              try go_simp
              refine wpAnyH_ready (rs := [3]) (by kernel_rfl) (by simp) ?_
              refine AllReadyH.cons rfl (fun K hK => ?_) AllReadyH.nil
              rw [if_pos (by rfl)]
              refine grow_link (L := ⟨r, d, X⟩) _ _ rfl rfl rfl (own8.out.alloc _) (range_new w8 [] (linkList r d X) [] _) HONE.out h8 (by simp; omega) ?_
              intro g9 cap9 w9 hown9 hgrow9
              have own9 := Lib.hid hown9
              have hgs : (some w.heap.size : Option Nat) ≠ some g := by simpa using hgw
              have hgs1 : (some (w.heap.size + 1) : Option Nat) ≠ some g := by simpa using hgw1
              have belq := Lib.hid ((below_drawn (below_new bel8.out _)).grown hgrow9 (by simp; omega) (fun j hj => by injection hj with hj; omega))
              refine hK.out _ _ ?_ (fun hHeld => ?_)
              · exact ⟨hgrow9.cell (below_cell_of (below_drawn (below_new (Below.refl _ w8) _)) s0) hgs, hgrow9.cell (below_cell_of (below_drawn (below_new (Below.refl _ w8) _)) s1) hgs, hgrow9.cell (below_cell_of (below_drawn (below_new (Below.refl _ w8) _)) s2) hgs, fun j v hv => hgrow9.cell (below_cell_of (below_drawn (below_new (Below.refl _ w8) _)) (rng8.out j v hv)) hgs1⟩
              clear hK K
              try go_simp
              refine wpAnyH_ready (rs := [6]) (by kernel_rfl) (by simp) ?_
              refine AllReadyH.cons rfl (fun K hK => ?_) AllReadyH.nil
              go_simp
              refine (trip_any (some ⟨g9, 0, none⟩) (ln + 1) cap9 ((List.range (ln + 1)).map (updK (updK (fun i => ks.getD i default) kk ⟨r, d, X⟩) ln ⟨r, d, X⟩)) pa j pc pls pb (!pu) size _ (own_rdK own9.out HOG2.out) (HL.out.below belq.out) (by omega)).mono ?_
              rw [HTS2.out h8]
              rintro e' w10 ⟨rfl, hb10⟩
              have bel9 := Lib.hid (below_on belq.out hb10)
              refine hK.out _ _ ?_ (fun hHeld => ?_)
              · exact ⟨below_cell_of hb10 hHeld.1, below_cell_of hb10 hHeld.2.1, below_cell_of hb10 hHeld.2.2.1, rangeAt_below hHeld.2.2.2 hb10⟩
              clear hK K
              try go_simp
              refine wpAnyH_take (i := 7) (v := ?_) rfl (by kernel_rfl) (by kernel_rfl) (by kernel_rfl) (fun _ _ _ h => h) (Or.inl ⟨by rfl, ?_⟩) hHeld ?_
              rotate_left
              · intro wS hSw; obtain ⟨hS0, hS1, hS2, hS3⟩ := hSw; go_simp; try with_reducible rfl
              try go_simp
              refine wpAnyH_take (i := 8) (v := ?_) rfl (by kernel_rfl) (by kernel_rfl) (by kernel_rfl) (fun _ _ _ h => h) (Or.inl ⟨by rfl, ?_⟩) hHeld ?_
              rotate_left
              · intro wS hSw; obtain ⟨hS0, hS1, hS2, hS3⟩ := hSw; go_simp; try with_reducible rfl
              try go_simp
              refine wpAnyH_take (i := 9) (v := ?_) rfl (by kernel_rfl) (by kernel_rfl) (by kernel_rfl) (fun _ _ _ h => h) (Or.inl ⟨by rfl, ?_⟩) hHeld ?_
              rotate_left
              · intro wS hSw; obtain ⟨hS0, hS1, hS2, hS3⟩ := hSw; go_simp; try with_reducible rfl
              try go_simp
              refine wpAnyH_take (i := 10) (v := ?_) rfl (by kernel_rfl) (by kernel_rfl) (by kernel_rfl) (fun _ _ _ h => h) (Or.inl ⟨by rfl, ?_⟩) hHeld ?_
              rotate_left
              · intro wS hSw; obtain ⟨hS0, hS1, hS2, hS3⟩ := hSw; go_simp; try with_reducible rfl
              try go_simp
              refine wpAnyH_take (i := 11) (v := ?_) rfl (by kernel_rfl) (by kernel_rfl) (by kernel_rfl) (fun _ _ _ h => h) (Or.inl ⟨by rfl, ?_⟩) hHeld ?_
              rotate_left
              · intro wS hSw; obtain ⟨hS0, hS1, hS2, hS3⟩ := hSw; go_simp; try with_reducible rfl
              try go_simp
              refine wpAnyH_done (by kernel_rfl) ?_ _
              clear hHeld
              go_wp2
              go_ret
              exact ⟨rfl, bel9.out⟩
            · go_wp2
              go_ret
              exact ⟨rfl, bel8.out⟩
    · have he' : (e != 0) = true := by simpa using he
      go_wp2
      go_ret
      exact ⟨rfl, hB_w2⟩
  · have h20' : (decide (ln ≤ 20) && decide (pl ≤ 20)) = false := by
      rw [Bool.and_eq_false_iff, decide_eq_false_iff_not, decide_eq_false_iff_not]
      omega
    have H20 := Lib.hid h20'
    clear h20' h20
    go_wp2_with fail
    refine (few_any la ln lc (some ⟨w1.heap.size, 0, none⟩) 1 1 [⟨pa, pl, pc, pls, pb, pu⟩] _ (rdP_one (by go_simp) (by go_simp) (by go_simp) ⟨HL.out.below (below_new hB_w1 _), hlm⟩) (by omega)).mono ?_
    rw [fewB_one2, show (decide (ln ≤ 20) && decide ((PathV.mk pa pl pc pls pb pu).len ≤ 20)) = false from H20.out]
    rintro e' w1' ⟨rfl, rfl⟩
    go_wp2
    go_ret
    exact ⟨rfl, below_new hB_w1 _⟩
end Go.Proofs.Ytjjplcjinhcpiaa
