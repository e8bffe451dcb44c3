/- The statement RouteTrip: it returns true, whatever the input, and leaves what was in memory alone. -/
import Derived.Test.YtjjplcjinhcpiaaRoCopy
import Derived.Test.YtjjplcjinhcpiaaRoPar
namespace Go.Proofs.Ytjjplcjinhcpiaa
open Go.RowKit

theorem wf_u16 {n : Int} (h : (Lit.int .u16 n).wf = true) : 0 ≤ n ∧ n ≤ 65535 := by
  simp [Lit.wf, IntKind.min, IntKind.max, IntKind.signed, IntKind.bits] at h
  omega
theorem trip_zero {links : List (Int × Int)} {ls : List Int} {back size : Int} (h : (Ro.trip links ls back size).2 ≠ 0) : (Ro.trip links ls back size).1 = 0 := by
  unfold Ro.trip at h ⊢
  split
  · split
    · split
      · rename_i h1 h2 h3
        rw [if_pos h1, if_pos h2, if_pos h3] at h
        exact absurd rfl h
      · rfl
    · rfl
  · rfl
theorem rdK_delay {w : World} {la : Option Addr} {n : Nat} {ks : List LinkV} (h : RdK w la n ks) (j : Nat) (hj : j < n) : ∃ b o, la = some ⟨b, o, none⟩ ∧ w.cell? ⟨b, o + j * 27 + 1, none⟩ = some (.int .i64 (ks.getD j default).d) := by
  obtain ⟨b, o, e, hr, _⟩ := h.2 j hj
  exact ⟨b, o, e, hr 1 _ rfl⟩
/-- The delays of the first k links of a path, and the delay back. -/
def sumD (links : List (Int × Int)) (back : Int) (ls : List Int) (k : Nat) : Int := back + ((ls.take k).map fun x => (links.getD x.toNat (0, 0)).2).sum
theorem sumD_succ (links : List (Int × Int)) (back : Int) (ls : List Int) (k : Nat) (hk : k < ls.length) : sumD links back ls (k + 1) = sumD links back ls k + (links.getD (ls.getD k 0).toNat (0, 0)).2 := by
  unfold sumD
  have e : ls.take (k + 1) = ls.take k ++ [ls.getD k 0] := by
    rw [List.take_add_one, List.getD_eq_getElem?_getD, List.getElem?_eq_getElem hk]
    rfl
  rw [e, List.map_append, List.sum_append, List.map_singleton, List.sum_singleton]
  omega
theorem sumD_bd {links : List (Int × Int)} {back : Int} {ls : List Int} (h : ∀ x, x ∈ ls → 0 ≤ (links.getD x.toNat (0, 0)).2 ∧ (links.getD x.toNat (0, 0)).2 ≤ 1000000) (k : Nat) (hk : k ≤ ls.length) : back ≤ sumD links back ls k ∧ sumD links back ls k ≤ back + 1000000 * (k : Int) := by
  induction k with
  | zero => simp [sumD]
  | succ k ih =>
    have := ih (by omega)
    have h2 := h (ls.getD k 0) (by rw [List.getD_eq_getElem?_getD, List.getElem?_eq_getElem (by omega)]; exact List.getElem_mem _)
    rw [sumD_succ links back ls k (by omega)]
    generalize (links.getD (ls.getD k 0).toNat (0, 0)).2 = d at h2 ⊢
    omega
theorem fine_bd {l : Int × Int} (h : Ro.fine l = true) : 1 ≤ l.1 ∧ l.1 ≤ 1000000 ∧ 0 ≤ l.2 ∧ l.2 ≤ 1000000 := by
  unfold Ro.fine at h
  rw [Bool.and_eq_true, Ro.inside_iff, Ro.inside_iff] at h
  exact ⟨h.1.1, h.1.2, h.2.1, h.2.2⟩

/-- A link that is slower and later. -/
def slowR (s r : Int) : Int := if 1 < wrap64 ((if 1000000 < r then 1000000 else r) - s) then wrap64 ((if 1000000 < r then 1000000 else r) - s) else 1
def lateD (l d : Int) : Int := if (if 0 < (if 1000000 < d then 1000000 else d) then (if 1000000 < d then 1000000 else d) else 0) + l < 1000000 then (if 0 < (if 1000000 < d then 1000000 else d) then (if 1000000 < d then 1000000 else d) else 0) + l else 1000000
def worse (s l : Int) (L : LinkV) : LinkV := { L with r := slowR s L.r, d := lateD l L.d }
def worseTo (K : Nat → LinkV) (s l : Int) (k : Nat) : Nat → LinkV := fun i => if i < k then worse s l (K i) else K i
theorem worseTo_here (K : Nat → LinkV) (s l : Int) (k : Nat) : worseTo K s l k k = K k := if_neg (by omega)
theorem worseTo_succ (K : Nat → LinkV) (s l : Int) (k : Nat) : updK (updK (worseTo K s l k) k { K k with r := slowR s (K k).r }) k (worse s l (K k)) = worseTo K s l (k + 1) := by
  funext i
  unfold updK worseTo
  by_cases e : i = k
  · subst e
    rw [if_pos rfl, if_pos (by omega)]
  · rw [if_neg e, if_neg e]
    by_cases h : i < k
    · rw [if_pos h, if_pos (by omega)]
    · rw [if_neg h, if_neg (by omega)]
theorem worse_step (n : Nat) (K : Nat → LinkV) (s l : Int) (k : Nat) (hk : k < n) : ((flatK n (worseTo K s l k)).set (k * 27) (.int .i64 (slowR s (K k).r))).set (k * 27 + 1) (.int .i64 (lateD l (K k).d)) = flatK n (worseTo K s l (k + 1)) := by
  have h1 := flatK_set n (worseTo K s l k) k 0 hk (by omega) { K k with r := slowR s (K k).r } (.int .i64 (slowR s (K k).r)) rfl (fun c' hc => by rw [worseTo_here]; exact cellK_rate _ _ _ hc)
  rw [Nat.add_zero] at h1
  rw [h1]
  have h2 := flatK_set n (updK (worseTo K s l k) k { K k with r := slowR s (K k).r }) k 1 hk (by omega) (worse s l (K k)) (.int .i64 (lateD l (K k).d)) rfl (fun c' hc => by
    unfold updK
    rw [if_pos rfl]
    exact cellK_delay { K k with r := slowR s (K k).r } (lateD l (K k).d) c' hc)
  rw [h2, worseTo_succ]
theorem oneK_rd {L : LinkV} (h : oneK L) (r d : Int) : oneK { L with r := r, d := d } := by
  have h2 := Array.all_eq_true_iff_forall_mem.1 h
  refine all_oneCell_toArray (fun v hv => ?_)
  rcases List.mem_cons.1 hv with rfl | hv
  · rfl
  · rcases List.mem_cons.1 hv with rfl | hv
    · rfl
    · exact h2 v (List.mem_toArray.2 (List.mem_cons_of_mem _ (List.mem_cons_of_mem _ hv)))
theorem slow_bd {s r : Int} (s0 : 0 ≤ s) (s1 : s ≤ 65535) (r0 : 1 ≤ r) (r1 : r ≤ 1000000) : 1 ≤ slowR s r ∧ slowR s r ≤ r := by
  have e1 : (if 1000000 < r then (1000000 : Int) else r) = r := if_neg (by omega)
  unfold slowR
  rw [e1, IntWalk.wrap64_in _ ⟨by omega, by omega⟩]
  split <;> omega
theorem late_bd {l d : Int} (l0 : 0 ≤ l) (l1 : l ≤ 65535) (d0 : 0 ≤ d) (d1 : d ≤ 1000000) : d ≤ lateD l d ∧ lateD l d ≤ 1000000 := by
  have e1 : (if 1000000 < d then (1000000 : Int) else d) = d := if_neg (by omega)
  have e2 : (if 0 < d then d else (0 : Int)) = d := by split <;> omega
  unfold lateD
  rw [e1, e2]
  split <;> omega
theorem takes_mono {s s' r r' d d' : Int} (h1 : 1 ≤ s) (h2 : s ≤ s') (h3 : 1 ≤ r') (h4 : r' ≤ r) (h5 : d ≤ d') : Ro.takes s (r, d) ≤ Ro.takes s' (r', d') := by
  unfold Ro.takes
  show (1000 * s + r - 1).tdiv r + d ≤ (1000 * s' + r' - 1).tdiv r' + d'
  rw [Int.tdiv_eq_ediv_of_nonneg (by omega), Int.tdiv_eq_ediv_of_nonneg (by omega)]
  have e : ∀ a b : Int, 1 ≤ b → (1000 * a + b - 1) / b = (1000 * a - 1) / b + 1 := fun a b hb => by
    rw [show 1000 * a + b - 1 = (1000 * a - 1) + b by omega, Int.add_ediv_of_dvd_right (Int.dvd_refl b), Int.ediv_self (by omega)]
  rw [e s r (by omega), e s' r' h3]
  have m1 : (1000 * s - 1) / r ≤ (1000 * s' - 1) / r := Int.ediv_le_ediv (by omega) (by omega)
  have m2 : (1000 * s' - 1) / r ≤ (1000 * s' - 1) / r' := by
    rw [Int.le_ediv_iff_mul_le (by omega)]
    have q0 : 0 ≤ (1000 * s' - 1) / r := Int.ediv_nonneg (by omega) (by omega)
    have q1 : (1000 * s' - 1) / r * r' ≤ (1000 * s' - 1) / r * r := Int.mul_le_mul_of_nonneg_left h4 q0
    have q2 : (1000 * s' - 1) / r * r ≤ 1000 * s' - 1 := Int.ediv_mul_le _ (by omega)
    omega
  omega
theorem takes_gt {s r d : Int} (h1 : 1 ≤ s) (h3 : 1 ≤ r) : d + 1 ≤ Ro.takes s (r, d) := by
  unfold Ro.takes
  show d + 1 ≤ (1000 * s + r - 1).tdiv r + d
  rw [Int.tdiv_eq_ediv_of_nonneg (by omega)]
  have e1 : 1 ≤ (1000 * s + r - 1) / r := (Int.le_ediv_iff_mul_le (by omega)).2 (by omega)
  omega
theorem sum_le {f g : Int → Int} : ∀ (ls : List Int), (∀ x, x ∈ ls → f x ≤ g x) → (ls.map f).sum ≤ (ls.map g).sum
  | [], _ => by simp
  | x :: r, h => by
    have h1 := h x (List.mem_cons_self ..)
    have h2 := sum_le r (fun y hy => h y (List.mem_cons_of_mem _ hy))
    simp only [List.map_cons, List.sum_cons]
    omega
theorem sum_lt {f g : Int → Int} (ls : List Int) (h : ∀ x, x ∈ ls → f x + 1 ≤ g x) (hne : 1 ≤ ls.length) : (ls.map f).sum < (ls.map g).sum := by
  match ls, hne with
  | x :: r, _ =>
    have h1 := h x (List.mem_cons_self ..)
    have h2 := sum_le (f := f) (g := g) r (fun y hy => by have := h y (List.mem_cons_of_mem _ hy); omega)
    simp only [List.map_cons, List.sum_cons]
    omega
/-- What slower links, greater delays and a greater packet do. -/
theorem trip_worse {links links' : List (Int × Int)} {ls : List Int} {back size size' n : Int} (h : Ro.trip links ls back size = (n, 0)) (hlen : links'.length = links.length) (hs0 : size ≤ size') (hs1 : size' ≤ 10000)
    (hw : ∀ x, x ∈ ls → Ro.fine (links'.getD x.toNat (0, 0)) = true ∧ (links'.getD x.toNat (0, 0)).1 ≤ (links.getD x.toNat (0, 0)).1 ∧ (links.getD x.toNat (0, 0)).2 ≤ (links'.getD x.toNat (0, 0)).2) :
    ∃ m, Ro.trip links' ls back size' = (m, 0) ∧ n ≤ m ∧ sumD links back ls ls.length < n := by
  obtain ⟨h1, h2, h3, h4⟩ := trip_err (links := links) (ls := ls) (back := back) (size := size) (by rw [h])
  rw [Ro.inside_iff] at h1
  have hl := (Ro.inside_iff _ _ _).1 (Ro.check_one h2).2.1
  rw [List.all_eq_true] at h3
  have hc : Ro.check links'.length [(ls, back)] = 0 := by rw [hlen]; exact h2
  refine ⟨_, (Ro.trip_ok ((Ro.inside_iff _ _ _).2 ⟨by omega, hs1⟩) hc).trans (if_pos (List.all_eq_true.2 (fun x hx => (hw x hx).1))), ?_, ?_⟩
  · rw [h] at h4
    injection h4 with h4 _
    rw [h4]
    have := sum_le (f := fun x => Ro.takes size (links.getD x.toNat (0, 0))) (g := fun x => Ro.takes size' (links'.getD x.toNat (0, 0))) ls (fun x hx => by
      obtain ⟨k1, k2, k3⟩ := hw x hx
      have f1 := fine_bd k1
      exact takes_mono (r := (links.getD x.toNat (0, 0)).1) (d := (links.getD x.toNat (0, 0)).2) (r' := (links'.getD x.toNat (0, 0)).1) (d' := (links'.getD x.toNat (0, 0)).2) h1.1 hs0 f1.1 k2 k3)
    omega
  · rw [h] at h4
    injection h4 with h4 _
    rw [h4]
    unfold sumD
    rw [List.take_length]
    have := sum_lt (f := fun x => (links.getD x.toNat (0, 0)).2) (g := fun x => Ro.takes size (links.getD x.toNat (0, 0))) ls (fun x hx => takes_gt (r := (links.getD x.toNat (0, 0)).1) h1.1 (fine_bd (h3 x hx)).1) (by omega)
    omega

set_option maxHeartbeats 1000000 in
set_option maxRecDepth 100000 in
theorem trip_entry (la : Option Addr) (ln lc : Nat) (ks : List LinkV) (pa : Option Addr) (pl pc : Nat) (pls : List Int) (pb : Int) (pu : Bool) (size slower later more : Int) (w : World) (hk : RdK w la ln ks) (_hkm : (ln : Int) ≤ 9223372036854775807) (hl : RdI w .i64 pa pl pls) (hlm : (pl : Int) ≤ 9223372036854775807) (_ws : (Lit.int .i64 size).wf = true) (w1 : (Lit.int .u16 slower).wf = true) (w2 : (Lit.int .u16 later).wf = true) (w3 : (Lit.int .u16 more).wf = true) :
    Calls Try.prog 7 #[.slice la ln lc, .agg #[.slice pa pl pc, .int .i64 pb, .bool pu], .int .i64 size, .int .u16 slower, .int .u16 later, .int .u16 more] w fun e w' => e = .returned (.bool true) ∧ Below w.heap.size w w' := by
  obtain ⟨c0, c1⟩ := wf_u16 w1
  obtain ⟨c2, c3⟩ := wf_u16 w2
  obtain ⟨c4, c5⟩ := wf_u16 w3
  have HK := Lib.hid hk
  have HL := Lib.hid hl
  have hz := hl.1
  have HZ := Lib.hid hz
  clear hk hl w1 w2 w3 hz
  obtain ⟨⟨n, e⟩, ht⟩ : ∃ t, Ro.trip (ks.map LinkV.plain) pls pb size = t := ⟨_, rfl⟩
  have HT := Lib.hid ht
  clear ht
  go_enter Try.func7, Try.ntmps7
  go_wp2_with fail
  refine (head_ok _).mono ?_
  rintro e w1 ⟨rfl, hb_w1⟩
  have hB_w1 : Below w.heap.size w w1 := below_on (by (repeat (first | assumption | exact Below.refl _ _ | refine below_set ?_ (by first | omega | (simp; done) | (simp; omega)) _ | refine below_drawn ?_ | refine below_drawnN ?_ _ | refine below_new ?_ _))) hb_w1
  have hz_w1 := hb_w1.size
  try simp only [World.size_setCell] at hz_w1
  try simp only [World.size_drew] at hz_w1
  try simp only [World.size_drewN] at hz_w1
  try simp only [World.size_alloc] at hz_w1
  try simp only [World.size_setCell] at hz_w1
  try simp only [World.size_drew] at hz_w1
  try simp only [World.size_drewN] at hz_w1
  try simp only [World.size_alloc] at hz_w1
  have hl0_w1 : w.heap.size < w1.heap.size := by omega
  have p0_w1 : w1.cell? ⟨w.heap.size, 0, none⟩ = some (.slice pa pl pc) := below_cell_of hb_w1 (by first | (go_simp; done) | (refine below_cell_of (w := w) ?_ (by first | assumption | (go_simp; done)); (repeat (first | assumption | exact Below.refl _ _ | refine below_set ?_ (by first | omega | (simp; done) | (simp; omega)) _ | refine below_drawn ?_ | refine below_drawnN ?_ _ | refine below_new ?_ _))))
  have p1_w1 : w1.cell? ⟨w.heap.size, 1, none⟩ = some (.int .i64 pb) := below_cell_of hb_w1 (by first | (go_simp; done) | (refine below_cell_of (w := w) ?_ (by first | assumption | (go_simp; done)); (repeat (first | assumption | exact Below.refl _ _ | refine below_set ?_ (by first | omega | (simp; done) | (simp; omega)) _ | refine below_drawn ?_ | refine below_drawnN ?_ _ | refine below_new ?_ _))))
  have p2_w1 : w1.cell? ⟨w.heap.size, 2, none⟩ = some (.bool pu) := below_cell_of hb_w1 (by first | (go_simp; done) | (refine below_cell_of (w := w) ?_ (by first | assumption | (go_simp; done)); (repeat (first | assumption | exact Below.refl _ _ | refine below_set ?_ (by first | omega | (simp; done) | (simp; omega)) _ | refine below_drawn ?_ | refine below_drawnN ?_ _ | refine below_new ?_ _))))
  by_cases h20 : ln ≤ 20 ∧ pl ≤ 20
  · obtain ⟨hln, hpl⟩ := h20
    go_wp2_with fail
    refine (few_any la ln lc (some ⟨w1.heap.size, 0, none⟩) 1 1 [⟨pa, pl, pc, pls, pb, pu⟩] _ (rdP_one (by go_simp) (by go_simp) (by go_simp) ⟨HL.out.below (below_new hB_w1 _), hlm⟩) (by omega)).mono ?_
    rw [fewB_one2, show decide (ln ≤ 20) = true from decide_eq_true hln, show decide ((PathV.mk pa pl pc pls pb pu).len ≤ 20) = true from decide_eq_true hpl]
    rintro e' w1' ⟨rfl, rfl⟩
    go_wp2_with fail
    refine (trip_any la ln lc ks pa pl pc pls pb pu size _ (HK.out.below (below_new hB_w1 _)) (HL.out.below (below_new hB_w1 _)) (by omega)).mono ?_
    rw [HT.out]
    rintro e w2 ⟨rfl, hb_w2⟩
    have hB_w2 : Below w.heap.size w w2 := below_on (by first | ((repeat (first | assumption | exact Below.refl _ _ | refine below_set ?_ (by first | omega | (simp; done) | (simp; omega)) _ | refine below_drawn ?_ | refine below_drawnN ?_ _ | refine below_new ?_ _)); done) | (refine below_on hB_w1 ?_; (repeat (first | assumption | exact Below.refl _ _ | refine below_set ?_ (by first | omega | (simp; done) | (simp; omega)) _ | refine below_drawn ?_ | refine below_drawnN ?_ _ | refine below_new ?_ _)))) hb_w2
    have hz_w2 := hb_w2.size
    try simp only [World.size_setCell] at hz_w2
    try simp only [World.size_drew] at hz_w2
    try simp only [World.size_drewN] at hz_w2
    try simp only [World.size_alloc] at hz_w2
    try simp only [World.size_setCell] at hz_w2
    try simp only [World.size_drew] at hz_w2
    try simp only [World.size_drewN] at hz_w2
    try simp only [World.size_alloc] at hz_w2
    have hl0_w2 : w.heap.size < w2.heap.size := by omega
    have p0_w2 : w2.cell? ⟨w.heap.size, 0, none⟩ = some (.slice pa pl pc) := below_cell_of hb_w2 (by first | (go_simp; done) | (refine below_cell_of (w := w1) ?_ (by first | assumption | (go_simp; done)); (repeat (first | assumption | exact Below.refl _ _ | refine below_set ?_ (by first | omega | (simp; done) | (simp; omega)) _ | refine below_drawn ?_ | refine below_drawnN ?_ _ | refine below_new ?_ _))))
    have p1_w2 : w2.cell? ⟨w.heap.size, 1, none⟩ = some (.int .i64 pb) := below_cell_of hb_w2 (by first | (go_simp; done) | (refine below_cell_of (w := w1) ?_ (by first | assumption | (go_simp; done)); (repeat (first | assumption | exact Below.refl _ _ | refine below_set ?_ (by first | omega | (simp; done) | (simp; omega)) _ | refine below_drawn ?_ | refine below_drawnN ?_ _ | refine below_new ?_ _))))
    have p2_w2 : w2.cell? ⟨w.heap.size, 2, none⟩ = some (.bool pu) := below_cell_of hb_w2 (by first | (go_simp; done) | (refine below_cell_of (w := w1) ?_ (by first | assumption | (go_simp; done)); (repeat (first | assumption | exact Below.refl _ _ | refine below_set ?_ (by first | omega | (simp; done) | (simp; omega)) _ | refine below_drawn ?_ | refine below_drawnN ?_ _ | refine below_new ?_ _))))
    by_cases he : e = 0
    · subst he
      obtain ⟨hsz, hck, hfin, htv⟩ := trip_err (links := ks.map LinkV.plain) (ls := pls) (back := pb) (size := size) (by rw [HT.out])
      obtain ⟨hm8, hl6, hall, hnd, hbk⟩ := Ro.check_one hck
      rw [List.length_map, HK.out.1] at hm8 hall
      obtain ⟨_, hm8⟩ := (Ro.inside_iff _ _ _).1 hm8
      obtain ⟨hl1', hl6⟩ := (Ro.inside_iff _ _ _).1 hl6
      obtain ⟨b0, b1⟩ := (Ro.inside_iff _ _ _).1 hbk
      obtain ⟨s0, s1⟩ := (Ro.inside_iff _ _ _).1 hsz
      rw [HZ.out] at hl1' hl6
      have HALL := Lib.hid hall
      have HFIN := Lib.hid (List.all_eq_true.1 hfin)
      clear hck hfin htv hall hnd hbk hsz
      have hdel : ∀ x, x ∈ pls → 0 ≤ ((ks.map LinkV.plain).getD x.toNat (0, 0)).2 ∧ ((ks.map LinkV.plain).getD x.toNat (0, 0)).2 ≤ 1000000 := fun x hx => by
        have := fine_bd (HFIN.out x hx)
        exact ⟨this.2.2.1, this.2.2.2⟩
      have HDEL := Lib.hid hdel
      clear hdel
      have hln1 : 1 ≤ ln := by
        have := HALL.out _ (HL.out.mem (i := 0) (by omega))
        rw [Ro.inside_iff] at this
        omega
      have HK2 := Lib.hid (HK.out.below hB_w2)
      go_wp2
      go_loopw [16, 49] (fun v i wr => ∃ k : Nat, k ≤ pl ∧ i = .int .i64 k ∧ v = .int .i64 (sumD (ks.map LinkV.plain) pb pls k) ∧ w2 = wr) (fun _ i _ => pl - (intOf i).toNat)
      case atStart => exact ⟨0, Nat.zero_le _, rfl, by simp [sumD], rfl⟩
      case round =>
        obtain ⟨k, hk, rfl, rfl, rfl⟩ := hrel
        have hsb := sumD_bd (back := pb) HDEL.out k (by rw [HZ.out]; exact hk)
        by_cases hlt : k < pl
        · have hin := HALL.out _ (HL.out.mem hlt)
          have hsb2 := sumD_bd (back := pb) HDEL.out (k + 1) (by rw [HZ.out]; omega)
          have hsu := sumD_succ (ks.map LinkV.plain) pb pls k (by rw [HZ.out]; exact hlt)
          obtain ⟨ad, rfl, hc⟩ := (HL.out.below hB_w2).2 k hlt
          obtain ⟨z, hzz⟩ : ∃ z, pls.getD k 0 = z := ⟨_, rfl⟩
          rw [hzz] at hin hc hsu
          obtain ⟨q0, q1⟩ := (Ro.inside_iff _ _ _).1 hin
          obtain ⟨j, rfl⟩ : ∃ j : Nat, z = j := ⟨z.toNat, by omega⟩
          have hj : j < ln := by omega
          obtain ⟨lb, lo, rfl, hcd⟩ := rdK_delay HK2.out j hj
          have hgd : ((ks.map LinkV.plain).getD ((j : Int)).toNat (0, 0)).2 = (ks.getD j default).d := by
            have hjl : j < ks.length := by rw [HK.out.1]; exact hj
            rw [Int.toNat_natCast, List.getD_eq_getElem?_getD, List.getD_eq_getElem?_getD, List.getElem?_map, List.getElem?_eq_getElem hjl]
            rfl
          rw [hgd] at hsu
          obtain ⟨d, hdd⟩ : ∃ d, (ks.getD j default).d = d := ⟨_, rfl⟩
          rw [hdd] at hcd hsu
          rw [hsu] at hsb2
          obtain ⟨S, hS⟩ : ∃ S, sumD (ks.map LinkV.plain) pb pls k = S := ⟨_, rfl⟩
          rw [hS] at hsu hsb hsb2 ⊢
          have HSU := Lib.hid hsu
          clear hzz hin hgd hdd hsu hS
          go_wp2
          go_roundw
          case rel => exact ⟨k + 1, by omega, by go_num, by rw [HSU.out], by first | rfl | trivial⟩
          case measure => simp [intOf]; omega
        · obtain rfl : k = pl := by omega
          obtain ⟨S, hS⟩ : ∃ S, sumD (ks.map LinkV.plain) pb pls k = S := ⟨_, rfl⟩
          rw [hS] at hsb ⊢
          have HS := Lib.hid hS
          clear hS
          go_wp2_with (refine copy_links rfl _ _ rfl rfl rfl HK2.out hln1 hln ?_; intro g cap V hown hbel hgb)
          have HOWN := Lib.hid hown
          have HBV := Lib.hid (below_on hB_w2 hbel)
          have hVz := hbel.size
          have q0 := below_cell_of hbel p0_w2
          have q1 := below_cell_of hbel p1_w2
          have q2 := below_cell_of hbel p2_w2
          clear hown hbel
          go_loopw [74] (fun i wr => ∃ j : Nat, j ≤ ln ∧ i = .int .i64 j ∧ wr.ownsRow w2.heap.size 53 27 (.slice (some ⟨g, 0, none⟩) ln cap) ln (flatK ln (worseTo (fun i => ks.getD i default) slower later j)) ∧
              wr.cell? ⟨w.heap.size, 0, none⟩ = some (.slice pa k pc) ∧ wr.cell? ⟨w.heap.size, 1, none⟩ = some (.int .i64 pb) ∧ wr.cell? ⟨w.heap.size, 2, none⟩ = some (.bool pu) ∧ Below w.heap.size w wr) (fun i _ => ln - (intOf i).toNat)
          case atStart => exact ⟨0, Nat.zero_le _, rfl, HOWN.out, q0, q1, q2, HBV.out⟩
          case round =>
            obtain ⟨j, hj, rfl, hown, r0, r1, r2, hB⟩ := hrel
            have HO := Lib.hid hown
            have HB := Lib.hid hB
            clear hB
            by_cases hjl : j < ln
            · have cr := own_rate hown j hjl
              have cd := own_delay hown j hjl
              have fr := hown.frozenAt (j * 27)
              have fd := hown.frozenAt (j * 27 + 1)
              clear hown
              rw [worseTo_here] at cr cd
              obtain ⟨R, hR⟩ : ∃ R, (ks.getD j default).r = R := ⟨_, rfl⟩
              obtain ⟨D, hD⟩ : ∃ D, (ks.getD j default).d = D := ⟨_, rfl⟩
              rw [hR] at cr
              rw [hD] at cd
              have hws := worse_step ln (fun i => ks.getD i default) slower later j hjl
              rw [hR, hD] at hws
              have HWS := Lib.hid hws
              have hgw : w.heap.size ≠ g := by omega
              have hgw2 : g ≠ w.heap.size := by omega
              have hwg : w.heap.size ≤ g := by omega
              clear hR hD hws
              go_wp2
              go_roundw
              case rel =>
                refine ⟨j + 1, by omega, by go_num, ?_, cell_set_ne (cell_set_ne r0 hgw) hgw, cell_set_ne (cell_set_ne r1 hgw) hgw, cell_set_ne (cell_set_ne r2 hgw) hgw, below_set (below_set HB.out hwg _) hwg _⟩
                rw [← HWS.out]
                exact (((HO.out.stored (j * 27) (.int .i64 (slowR slower R))).1).stored (j * 27 + 1) (.int .i64 (lateD later D))).1
              case measure => simp [intOf]; omega
            · obtain rfl : j = ln := by omega
              have hrk := own_rdK hown (fun i hi => by
                have h1 : oneK (ks.getD i default) := by
                  obtain ⟨_, _, _, _, h⟩ := HK.out.2 i hi
                  exact h
                show oneK (if i < j then worse slower later (ks.getD i default) else ks.getD i default)
                rw [if_pos hi]
                exact oneK_rd h1 _ _)
              have hlen' : (((List.range j).map (worseTo (fun i => ks.getD i default) slower later j)).map LinkV.plain).length = (ks.map LinkV.plain).length := by simp [HK.out.1]
              obtain ⟨sz, hsz⟩ : ∃ z : Int, (if size + more < 10000 then size + more else 10000) = z := ⟨_, rfl⟩
              have hsz0 : size ≤ sz ∧ sz ≤ 10000 := by rw [← hsz]; split <;> omega
              obtain ⟨M, ht, hnm, hns⟩ := trip_worse (links := ks.map LinkV.plain) (links' := ((List.range j).map (worseTo (fun i => ks.getD i default) slower later j)).map LinkV.plain) (ls := pls) (back := pb) (size := size) (size' := sz) HT.out hlen' hsz0.1 hsz0.2 (fun x hx => by
                have hin := HALL.out x hx
                rw [Ro.inside_iff] at hin
                obtain ⟨i, rfl⟩ : ∃ i : Nat, x = i := ⟨x.toNat, by omega⟩
                have hi : i < j := by omega
                have e0 : (ks.map LinkV.plain).getD ((i : Int)).toNat (0, 0) = ((ks.getD i default).r, (ks.getD i default).d) := by
                  have hjl : i < ks.length := by rw [HK.out.1]; exact hi
                  rw [Int.toNat_natCast, List.getD_eq_getElem?_getD, List.getD_eq_getElem?_getD, List.getElem?_map, List.getElem?_eq_getElem hjl]
                  rfl
                have e1 : (((List.range j).map (worseTo (fun i => ks.getD i default) slower later j)).map LinkV.plain).getD ((i : Int)).toNat (0, 0) = (slowR slower (ks.getD i default).r, lateD later (ks.getD i default).d) := by
                  rw [Int.toNat_natCast, List.getD_eq_getElem?_getD, List.getElem?_map, List.getElem?_map, List.getElem?_range hi]
                  show (LinkV.plain (if i < j then worse slower later (ks.getD i default) else ks.getD i default)) = _
                  rw [if_pos hi]
                  rfl
                have hf := HFIN.out _ hx
                rw [e0] at hf ⊢
                rw [e1]
                have fb := fine_bd hf
                have k1 := slow_bd (s := slower) (r := (ks.getD i default).r) c0 c1 fb.1 fb.2.1
                have k2 := late_bd (l := later) (d := (ks.getD i default).d) c2 c3 fb.2.2.1 fb.2.2.2
                refine ⟨?_, k1.2, k2.1⟩
                show (Ro.inside (slowR slower (ks.getD i default).r) 1 1000000 && Ro.inside (lateD later (ks.getD i default).d) 0 1000000) = true
                rw [Bool.and_eq_true, Ro.inside_iff, Ro.inside_iff]
                have := fb.2.1
                have := fb.2.2.1
                omega)
              rw [HZ.out, HS.out] at hns
              have HRK := Lib.hid hrk
              have HT2 := Lib.hid ht
              clear hown hrk hlen' ht
              go_wp2_with fail
              refine (trip_any (some ⟨g, 0, none⟩) j cap ((List.range j).map (worseTo (fun i => ks.getD i default) slower later j)) pa k pc pls pb pu sz _ HRK.out (HL.out.below HB.out) (by omega)).mono ?_
              rw [HT2.out]
              rintro e' w9 ⟨rfl, hb9⟩
              have HB9 := Lib.hid (below_on HB.out hb9)
              clear hb9
              go_wp2
              go_ret
              exact ⟨rfl, HB9.out⟩
    · have he' : (e != 0) = true := by simpa using he
      have hn0 := trip_zero (links := ks.map LinkV.plain) (ls := pls) (back := pb) (size := size) (by rw [HT.out]; exact he)
      rw [HT.out] at hn0
      have hn1 : n = 0 := hn0
      subst hn1
      go_wp2
      go_ret
      exact ⟨rfl, hB_w2⟩
  · have h20' : (decide (ln ≤ 20) && decide (pl ≤ 20)) = false := by
      rw [Bool.and_eq_false_iff, decide_eq_false_iff_not, decide_eq_false_iff_not]
      omega
    have H20 := Lib.hid h20'
    clear h20' h20
    go_wp2_with fail
    refine (few_any la ln lc (some ⟨w1.heap.size, 0, none⟩) 1 1 [⟨pa, pl, pc, pls, pb, pu⟩] _ (rdP_one (by go_simp) (by go_simp) (by go_simp) ⟨HL.out.below (below_new hB_w1 _), hlm⟩) (by omega)).mono ?_
    rw [fewB_one2, show (decide (ln ≤ 20) && decide ((PathV.mk pa pl pc pls pb pu).len ≤ 20)) = false from H20.out]
    rintro e' w1' ⟨rfl, rfl⟩
    go_wp2
    go_ret
    exact ⟨rfl, below_new hB_w1 _⟩
end Go.Proofs.Ytjjplcjinhcpiaa
