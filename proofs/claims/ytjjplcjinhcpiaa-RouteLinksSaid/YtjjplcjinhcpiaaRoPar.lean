/- The statement RouteParts: it returns true, whatever the input, and leaves what was in memory alone. -/
import Derived.Test.YtjjplcjinhcpiaaRoHead
import Derived.Test.YtjjplcjinhcpiaaRoOpen
import Derived.Deep.RegionHeld
namespace Go.Proofs.Ytjjplcjinhcpiaa
open Go.RowKit

theorem check_mk {many : Int} {ls : List Int} {back : Int} (h1 : Ro.inside many 0 8 = true) (h2 : Ro.inside ls.length 1 6 = true) (h3 : ∀ x, x ∈ ls → Ro.inside x 0 (many - 1) = true) (h4 : ls.Nodup) (h5 : Ro.inside back 0 1000000 = true) : Ro.check many [(ls, back)] = 0 := by
  have hw : Ro.wrong many ls back = 0 := by rw [Ro.wrong_all h2 h3, if_pos h4, if_pos h5]
  unfold Ro.check
  rw [if_pos h1, if_pos (by simp)]
  show (if Ro.wrong many ls back = 0 then Ro.firstErr many [] else Ro.wrong many ls back) = 0
  rw [if_pos hw]
  rfl
theorem trip_err {links : List (Int × Int)} {ls : List Int} {back size : Int} (h : (Ro.trip links ls back size).2 = 0) : Ro.inside size 1 10000 = true ∧ Ro.check links.length [(ls, back)] = 0 ∧ ls.all (fun x => Ro.fine (links.getD x.toNat (0, 0))) = true ∧
    Ro.trip links ls back size = (back + (ls.map fun x => Ro.takes size (links.getD x.toNat (0, 0))).sum, 0) := by
  unfold Ro.trip at h ⊢
  by_cases h1 : Ro.inside size 1 10000 = true
  · rw [if_pos h1] at h ⊢
    by_cases h2 : Ro.check links.length [(ls, back)] = 0
    · rw [if_pos h2] at h ⊢
      by_cases h3 : ls.all (fun x => Ro.fine (links.getD x.toNat (0, 0))) = true
      · rw [if_pos h3]
        exact ⟨h1, h2, h3, rfl⟩
      · rw [if_neg h3] at h
        exact absurd h (by show ¬ (3 : Int) = 0; omega)
    · rw [if_neg h2] at h
      exact absurd h h2
  · rw [if_neg h1] at h
    exact absurd h (by show ¬ (1 : Int) = 0; omega)
/-- A part of a right path. -/
theorem trip_part {links : List (Int × Int)} {ls xs : List Int} {back size : Int} (h : (Ro.trip links ls back size).2 = 0) (hsub : xs.Sublist ls) (hne : 1 ≤ xs.length) :
    Ro.trip links xs back size = (back + (xs.map fun x => Ro.takes size (links.getD x.toNat (0, 0))).sum, 0) := by
  obtain ⟨h1, h2, h3, _⟩ := trip_err h
  obtain ⟨k1, k2, k3, k4, k5⟩ := Ro.check_one h2
  have hlen := hsub.length_le
  rw [Ro.inside_iff] at k2
  have hc : Ro.check links.length [(xs, back)] = 0 := check_mk k1 (by rw [Ro.inside_iff]; omega) (fun x hx => k3 x (hsub.subset hx)) (k4.sublist hsub) k5
  rw [Ro.trip_ok h1 hc, if_pos]
  rw [List.all_eq_true] at h3 ⊢
  exact fun x hx => h3 x (hsub.subset hx)
theorem parts_sum {links : List (Int × Int)} {ls : List Int} {back size : Int} (h : (Ro.trip links ls back size).2 = 0) (k : Nat) (hk1 : 1 ≤ k) (hk2 : k < ls.length) :
    ∃ a b : Int, Ro.trip links (ls.take k) back size = (a, 0) ∧ Ro.trip links (ls.drop k) back size = (b, 0) ∧ (Ro.trip links ls back size).1 = a + b - back := by
  refine ⟨_, _, trip_part h (List.take_sublist _ _) (by rw [List.length_take]; omega), trip_part h (List.drop_sublist _ _) (by rw [List.length_drop]; omega), ?_⟩
  rw [(trip_err h).2.2.2]
  have e : (ls.map fun x => Ro.takes size (links.getD x.toNat (0, 0))).sum = ((ls.take k).map fun x => Ro.takes size (links.getD x.toNat (0, 0))).sum + ((ls.drop k).map fun x => Ro.takes size (links.getD x.toNat (0, 0))).sum := by
    rw [← List.sum_append, ← List.map_append, List.take_append_drop]
  show back + _ = _
  rw [e]
  omega
theorem trip_val_bd {links : List (Int × Int)} {ls : List Int} {back size a : Int} (h : Ro.trip links ls back size = (a, 0)) : 0 ≤ a ∧ a ≤ 100000000 := by
  have h0 : (Ro.trip links ls back size).2 = 0 := by rw [h]
  obtain ⟨h1, h2, h3, h4⟩ := trip_err h0
  obtain ⟨k1, k2, k3, k4, k5⟩ := Ro.check_one h2
  rw [Ro.inside_iff] at h1 k2 k5
  have hb := tripSt_bd (links := links) k5.1 k5.2 h1.1 h1.2 ls
  obtain ⟨e1, e2⟩ := tripSt_eq links back size ls
  rw [h3] at e1
  have e3 := e2 e1
  rw [h] at h4
  injection h4 with h4 _
  rw [h4, ← e3]
  omega
theorem RdI.drop {w : World} {k : IntKind} {ad : Addr} {n : Nat} {zs : List Int} (h : RdI w k (some ad) n zs) (m : Nat) (hm : m ≤ n) : RdI w k (some (ad.add m)) (n - m) (zs.drop m) :=
  ⟨by rw [List.length_drop, h.1], fun i hi => by
    obtain ⟨ad', e, hc⟩ := h.2 (m + i) (by omega)
    injection e with e
    subst e
    refine ⟨_, rfl, ?_⟩
    rw [Go.Deep.add_add, hc, List.getD_eq_getElem?_getD, List.getD_eq_getElem?_getD, List.getElem?_drop]⟩
theorem RdI.take {w : World} {k : IntKind} {a : Option Addr} {n : Nat} {zs : List Int} (h : RdI w k a n zs) (m : Nat) (hm : m ≤ n) : RdI w k a m (zs.take m) :=
  ⟨by rw [List.length_take, h.1]; omega, fun i hi => by
    obtain ⟨ad', e, hc⟩ := h.2 i (by omega)
    refine ⟨_, e, ?_⟩
    rw [hc, List.getD_eq_getElem?_getD, List.getD_eq_getElem?_getD, List.getElem?_take_of_lt hi]⟩
theorem wf_u8' {n : Int} (h : (Lit.int .u8 n).wf = true) : 0 ≤ n ∧ n ≤ 255 := by
  simp [Lit.wf, IntKind.min, IntKind.max, IntKind.signed, IntKind.bits] at h
  omega
theorem fewB_one2 (p : PathV) : fewB 1 [p] = decide (p.len ≤ 20) := by
  unfold fewB
  simp
set_option maxHeartbeats 4000000 in
set_option maxRecDepth 100000 in
theorem parts_entry (la : Option Addr) (ln lc : Nat) (ks : List LinkV) (pa : Option Addr) (pl pc : Nat) (pls : List Int) (pb : Int) (pu : Bool) (size cut : Int) (w : World) (hk : RdK w la ln ks) (_hkm : (ln : Int) ≤ 9223372036854775807) (hl : RdI w .i64 pa pl pls) (hlm : (pl : Int) ≤ 9223372036854775807) (hcap : pl ≤ pc) (_ws : (Lit.int .i64 size).wf = true) (wc : (Lit.int .u8 cut).wf = true) :
    Calls Try.prog 8 #[.slice la ln lc, .agg #[.slice pa pl pc, .int .i64 pb, .bool pu], .int .i64 size, .int .u8 cut] w fun e w' => e = .returned (.bool true) ∧ Below w.heap.size w w' := by
  obtain ⟨c0, c1⟩ := wf_u8' wc
  have HK := Lib.hid hk
  have HL := Lib.hid hl
  have hz := hl.1
  have HZ := Lib.hid hz
  clear hk hl wc hz
  obtain ⟨⟨n, e⟩, ht⟩ : ∃ t, Ro.trip (ks.map LinkV.plain) pls pb size = t := ⟨_, rfl⟩
  have HT := Lib.hid ht
  clear ht
  go_enter Try.func8, Try.ntmps8
  go_wp2_with fail
  refine (head_ok _).mono ?_
  rintro e w1 ⟨rfl, hb_w1⟩
  have hB_w1 : Below w.heap.size w w1 := below_on (by (repeat (first | assumption | exact Below.refl _ _ | refine below_set ?_ (by first | omega | (simp; done) | (simp; omega)) _ | refine below_drawn ?_ | refine below_drawnN ?_ _ | refine below_new ?_ _))) hb_w1
  have hz_w1 := hb_w1.size
  try simp only [World.size_setCell] at hz_w1
  try simp only [World.size_drew] at hz_w1
  try simp only [World.size_drewN] at hz_w1
  try simp only [World.size_alloc] at hz_w1
  try simp only [World.size_setCell] at hz_w1
  try simp only [World.size_drew] at hz_w1
  try simp only [World.size_drewN] at hz_w1
  try simp only [World.size_alloc] at hz_w1
  have hl0_w1 : w.heap.size < w1.heap.size := by omega
  have p0_w1 : w1.cell? ⟨w.heap.size, 0, none⟩ = some (.slice pa pl pc) := below_cell_of hb_w1 (by first | (go_simp; done) | (refine below_cell_of (w := w) ?_ (by first | assumption | (go_simp; done)); (repeat (first | assumption | exact Below.refl _ _ | refine below_set ?_ (by first | omega | (simp; done) | (simp; omega)) _ | refine below_drawn ?_ | refine below_drawnN ?_ _ | refine below_new ?_ _))))
  have p1_w1 : w1.cell? ⟨w.heap.size, 1, none⟩ = some (.int .i64 pb) := below_cell_of hb_w1 (by first | (go_simp; done) | (refine below_cell_of (w := w) ?_ (by first | assumption | (go_simp; done)); (repeat (first | assumption | exact Below.refl _ _ | refine below_set ?_ (by first | omega | (simp; done) | (simp; omega)) _ | refine below_drawn ?_ | refine below_drawnN ?_ _ | refine below_new ?_ _))))
  have p2_w1 : w1.cell? ⟨w.heap.size, 2, none⟩ = some (.bool pu) := below_cell_of hb_w1 (by first | (go_simp; done) | (refine below_cell_of (w := w) ?_ (by first | assumption | (go_simp; done)); (repeat (first | assumption | exact Below.refl _ _ | refine below_set ?_ (by first | omega | (simp; done) | (simp; omega)) _ | refine below_drawn ?_ | refine below_drawnN ?_ _ | refine below_new ?_ _))))
  by_cases h20 : ln ≤ 20 ∧ pl ≤ 20
  · obtain ⟨hln, hpl⟩ := h20
    go_wp2_with fail
    refine (few_any la ln lc (some ⟨w1.heap.size, 0, none⟩) 1 1 [⟨pa, pl, pc, pls, pb, pu⟩] _ (rdP_one (by go_simp) (by go_simp) (by go_simp) ⟨HL.out.below (below_new hB_w1 _), hlm⟩) (by omega)).mono ?_
    rw [fewB_one2, show decide (ln ≤ 20) = true from decide_eq_true hln, show decide ((PathV.mk pa pl pc pls pb pu).len ≤ 20) = true from decide_eq_true hpl]
    rintro e' w1' ⟨rfl, rfl⟩
    go_wp2_with fail
    refine (trip_any la ln lc ks pa pl pc pls pb pu size _ (HK.out.below (below_new hB_w1 _)) (HL.out.below (below_new hB_w1 _)) (by omega)).mono ?_
    rw [HT.out]
    rintro e w2 ⟨rfl, hb_w2⟩
    have hB_w2 : Below w.heap.size w w2 := below_on (by first | ((repeat (first | assumption | exact Below.refl _ _ | refine below_set ?_ (by first | omega | (simp; done) | (simp; omega)) _ | refine below_drawn ?_ | refine below_drawnN ?_ _ | refine below_new ?_ _)); done) | (refine below_on hB_w1 ?_; (repeat (first | assumption | exact Below.refl _ _ | refine below_set ?_ (by first | omega | (simp; done) | (simp; omega)) _ | refine below_drawn ?_ | refine below_drawnN ?_ _ | refine below_new ?_ _)))) hb_w2
    have hz_w2 := hb_w2.size
    try simp only [World.size_setCell] at hz_w2
    try simp only [World.size_drew] at hz_w2
    try simp only [World.size_drewN] at hz_w2
    try simp only [World.size_alloc] at hz_w2
    try simp only [World.size_setCell] at hz_w2
    try simp only [World.size_drew] at hz_w2
    try simp only [World.size_drewN] at hz_w2
    try simp only [World.size_alloc] at hz_w2
    have hl0_w2 : w.heap.size < w2.heap.size := by omega
    have p0_w2 : w2.cell? ⟨w.heap.size, 0, none⟩ = some (.slice pa pl pc) := below_cell_of hb_w2 (by first | (go_simp; done) | (refine below_cell_of (w := w1) ?_ (by first | assumption | (go_simp; done)); (repeat (first | assumption | exact Below.refl _ _ | refine below_set ?_ (by first | omega | (simp; done) | (simp; omega)) _ | refine below_drawn ?_ | refine below_drawnN ?_ _ | refine below_new ?_ _))))
    have p1_w2 : w2.cell? ⟨w.heap.size, 1, none⟩ = some (.int .i64 pb) := below_cell_of hb_w2 (by first | (go_simp; done) | (refine below_cell_of (w := w1) ?_ (by first | assumption | (go_simp; done)); (repeat (first | assumption | exact Below.refl _ _ | refine below_set ?_ (by first | omega | (simp; done) | (simp; omega)) _ | refine below_drawn ?_ | refine below_drawnN ?_ _ | refine below_new ?_ _))))
    have p2_w2 : w2.cell? ⟨w.heap.size, 2, none⟩ = some (.bool pu) := below_cell_of hb_w2 (by first | (go_simp; done) | (refine below_cell_of (w := w1) ?_ (by first | assumption | (go_simp; done)); (repeat (first | assumption | exact Below.refl _ _ | refine below_set ?_ (by first | omega | (simp; done) | (simp; omega)) _ | refine below_drawn ?_ | refine below_drawnN ?_ _ | refine below_new ?_ _))))
    by_cases he : e = 0
    · subst he
      by_cases h2 : pl < 2
      · go_wp2
        go_ret
        exact ⟨rfl, hB_w2⟩
      · obtain ⟨q, hq⟩ : ∃ q : Nat, cut % ((pl : Int) - 1) = q := by
          refine ⟨(cut % ((pl : Int) - 1)).toNat, ?_⟩
          have := Int.emod_nonneg cut (show (pl : Int) - 1 ≠ 0 by omega)
          omega
        have hq1 : q + 1 < pl := by
          have := Int.emod_lt_of_pos cut (show 0 < (pl : Int) - 1 by omega)
          omega
        obtain ⟨kk, hkk⟩ : ∃ kk : Nat, kk = 1 + q := ⟨_, rfl⟩
        have hkv : wrap64 (1 + cut % ((pl : Int) - 1)) = (kk : Int) := by
          rw [hq, IntWalk.wrap64_in _ ⟨by omega, by omega⟩, hkk]
          omega
        have hkp : 1 ≤ kk := by omega
        obtain ⟨x, y, t1, t2, t3⟩ := parts_sum (links := ks.map LinkV.plain) (ls := pls) (back := pb) (size := size) (by rw [HT.out]) kk (by omega) (by rw [HZ.out]; omega)
        rw [HT.out] at t3
        obtain ⟨x0, x1⟩ := trip_val_bd t1
        obtain ⟨y0, y1⟩ := trip_val_bd t2
        obtain ⟨hc2, _⟩ := trip_err (links := ks.map LinkV.plain) (ls := pls) (back := pb) (size := size) (by rw [HT.out])
        obtain ⟨_, _, _, _, hbk⟩ := Ro.check_one (trip_err (links := ks.map LinkV.plain) (ls := pls) (back := pb) (size := size) (by rw [HT.out])).2.1
        obtain ⟨b0, b1⟩ := (Ro.inside_iff _ _ _).1 hbk
        have hk3 : kk < pl := by omega
        have hne1 : ¬ pc = kk := by omega
        have hne2 : ¬ kk = pc := by omega
        have T1 := Lib.hid t1
        have T2 := Lib.hid t2
        have T3 : RowKit.Hid (n = x + y - pb) := Lib.hid t3
        clear hq hq1 hkk t1 t2 t3 hc2 hbk
        obtain ⟨ad, rfl, _⟩ := HL.out.2 0 (by omega)
        have hk1 : kk ≤ pc := by omega
        have hk2 : kk ≤ pl := by omega
        have hpz : ¬ (pl : Int) - 1 = 0 := by omega
        go_wp2
        refine wp_region_held_drew (S := (fun W => W.cell? ⟨w.heap.size, 0, none⟩ = some (.slice (some ad) pl pc) ∧ W.cell? ⟨w.heap.size, 1, none⟩ = some (.int .i64 pb))) (by kernel_rfl) ?_ (fun hHeld => ?_)
        · exact ⟨p0_w2, p1_w2⟩
        refine wpAnyH_take (i := 0) (v := ?_) rfl (by kernel_rfl) (by kernel_rfl) (by kernel_rfl) (fun _ _ _ h => h) (Or.inl ⟨by rfl, ?_⟩) hHeld ?_
        rotate_left
        · intro wS hSw; obtain ⟨hS0, hS1⟩ := hSw; go_simp; try with_reducible rfl
        try go_simp
        refine wpAnyH_take (i := 1) (v := ?_) rfl (by kernel_rfl) (by kernel_rfl) (by kernel_rfl) (fun _ _ _ h => h) (Or.inl ⟨by rfl, ?_⟩) hHeld ?_
        rotate_left
        · intro wS hSw; obtain ⟨hS0, hS1⟩ := hSw; go_simp; try with_reducible rfl
        try go_simp
        refine wpAnyH_take (i := 2) (v := ?_) rfl (by kernel_rfl) (by kernel_rfl) (by kernel_rfl) (fun _ _ _ h => h) (Or.inl ⟨by rfl, ?_⟩) hHeld ?_
        rotate_left
        · intro wS hSw; obtain ⟨hS0, hS1⟩ := hSw; go_simp; try with_reducible rfl
        try go_simp
        refine wpAnyH_take (i := 3) (v := ?_) rfl (by kernel_rfl) (by kernel_rfl) (by kernel_rfl) (fun _ _ _ h => h) (Or.inl ⟨by rfl, ?_⟩) hHeld ?_
        rotate_left
        · intro wS hSw; obtain ⟨hS0, hS1⟩ := hSw; go_simp; try with_reducible rfl
        try go_simp
        refine wpAnyH_take (i := 4) (v := ?_) rfl (by kernel_rfl) (by kernel_rfl) (by kernel_rfl) (fun _ _ _ h => h) (Or.inl ⟨by rfl, ?_⟩) hHeld ?_
        rotate_left
        · intro wS hSw; obtain ⟨hS0, hS1⟩ := hSw; go_simp; try with_reducible rfl
        try go_simp
        refine wpAnyH_take (i := 5) (v := ?_) rfl (by kernel_rfl) (by kernel_rfl) (by kernel_rfl) (fun _ _ _ h => h) (Or.inl ⟨by rfl, ?_⟩) hHeld ?_
        rotate_left
        · intro wS hSw; obtain ⟨hS0, hS1⟩ := hSw; go_simp; try with_reducible rfl
        try go_simp
        refine wpAnyH_take (i := 6) (v := ?_) rfl (by kernel_rfl) (by kernel_rfl) (by kernel_rfl) (fun _ _ _ h => h) (Or.inl ⟨by rfl, ?_⟩) hHeld ?_
        rotate_left
        · intro wS hSw; obtain ⟨hS0, hS1⟩ := hSw; go_simp; try with_reducible rfl
        try go_simp
        refine wpAnyH_take (i := 7) (v := ?_) rfl (by kernel_rfl) (by kernel_rfl) (by kernel_rfl) (fun _ _ _ h => h) (Or.inl ⟨by rfl, ?_⟩) hHeld ?_
        rotate_left
        · intro wS hSw; obtain ⟨hS0, hS1⟩ := hSw; go_simp; try with_reducible rfl
        try go_simp
        refine wpAnyH_take (i := 8) (v := ?_) rfl (by kernel_rfl) (by kernel_rfl) (by kernel_rfl) (fun _ _ _ h => h) (Or.inl ⟨by rfl, ?_⟩) hHeld ?_
        rotate_left
        · intro wS hSw; obtain ⟨hS0, hS1⟩ := hSw; go_simp; try with_reducible rfl
        try go_simp
        refine wpAnyH_ready (rs := [9]) (by kernel_rfl) (by simp) ?_
        refine AllReadyH.cons rfl (fun K hK => ?_) AllReadyH.nil
        go_simp
        have hB_c : Below w.heap.size w w2.drew := below_drawn hB_w2
        refine (trip_any la ln lc ks (some ad) kk pc (pls.take kk) pb false size _ (HK.out.below hB_c) ((HL.out.below hB_c).take kk hk2) (by omega)).mono ?_
        rw [T1.out]
        rintro e' w3 ⟨rfl, hb_w3⟩
        have hB_w3 : Below w.heap.size w w3 := below_on hB_c hb_w3
        have p0_w3 : w3.cell? ⟨w.heap.size, 0, none⟩ = some (.slice (some ad) pl pc) := below_cell_of hb_w3 p0_w2
        have p1_w3 : w3.cell? ⟨w.heap.size, 1, none⟩ = some (.int .i64 pb) := below_cell_of hb_w3 p1_w2
        refine hK.out _ _ ?_ (fun hHeld => ?_)
        · exact ⟨p0_w3, p1_w3⟩
        clear hK K
        try go_simp
        refine wpAnyH_take (i := 10) (v := ?_) rfl (by kernel_rfl) (by kernel_rfl) (by kernel_rfl) (fun _ _ _ h => h) (Or.inl ⟨by rfl, ?_⟩) hHeld ?_
        rotate_left
        · intro wS hSw; obtain ⟨hS0, hS1⟩ := hSw; go_simp; try with_reducible rfl
        try go_simp
        refine wpAnyH_take (i := 11) (v := ?_) rfl (by kernel_rfl) (by kernel_rfl) (by kernel_rfl) (fun _ _ _ h => h) (Or.inl ⟨by rfl, ?_⟩) hHeld ?_
        rotate_left
        · intro wS hSw; obtain ⟨hS0, hS1⟩ := hSw; go_simp; try with_reducible rfl
        try go_simp
        refine wpAnyH_take (i := 12) (v := ?_) rfl (by kernel_rfl) (by kernel_rfl) (by kernel_rfl) (fun _ _ _ h => h) (Or.inl ⟨by rfl, ?_⟩) hHeld ?_
        rotate_left
        · intro wS hSw; obtain ⟨hS0, hS1⟩ := hSw; go_simp; try with_reducible rfl
        try go_simp
        refine wpAnyH_take (i := 13) (v := ?_) rfl (by kernel_rfl) (by kernel_rfl) (by kernel_rfl) (fun _ _ _ h => h) (Or.inl ⟨by rfl, ?_⟩) hHeld ?_
        rotate_left
        · intro wS hSw; obtain ⟨hS0, hS1⟩ := hSw; go_simp; try with_reducible rfl
        try go_simp
        refine wpAnyH_take (i := 14) (v := ?_) rfl (by kernel_rfl) (by kernel_rfl) (by kernel_rfl) (fun _ _ _ h => h) (Or.inl ⟨by rfl, ?_⟩) hHeld ?_
        rotate_left
        · intro wS hSw; obtain ⟨hS0, hS1⟩ := hSw; go_simp; try with_reducible rfl
        try go_simp
        refine wpAnyH_done (by kernel_rfl) ?_ _
        clear hHeld
        go_wp2
        refine wp_region_held_drew (S := (fun W => W.cell? ⟨w.heap.size, 0, none⟩ = some (.slice (some ad) pl pc) ∧ W.cell? ⟨w.heap.size, 1, none⟩ = some (.int .i64 pb))) (by kernel_rfl) ?_ (fun hHeld => ?_)
        · exact ⟨p0_w3, p1_w3⟩
        refine wpAnyH_take (i := 0) (v := ?_) rfl (by kernel_rfl) (by kernel_rfl) (by kernel_rfl) (fun _ _ _ h => h) (Or.inl ⟨by rfl, ?_⟩) hHeld ?_
        rotate_left
        · intro wS hSw; obtain ⟨hS0, hS1⟩ := hSw; go_simp; try with_reducible rfl
        try go_simp
        refine wpAnyH_take (i := 1) (v := ?_) rfl (by kernel_rfl) (by kernel_rfl) (by kernel_rfl) (fun _ _ _ h => h) (Or.inl ⟨by rfl, ?_⟩) hHeld ?_
        rotate_left
        · intro wS hSw; obtain ⟨hS0, hS1⟩ := hSw; go_simp; try with_reducible rfl
        try go_simp
        refine wpAnyH_take (i := 2) (v := ?_) rfl (by kernel_rfl) (by kernel_rfl) (by kernel_rfl) (fun _ _ _ h => h) (Or.inl ⟨by rfl, ?_⟩) hHeld ?_
        rotate_left
        · intro wS hSw; obtain ⟨hS0, hS1⟩ := hSw; go_simp; try with_reducible rfl
        try go_simp
        refine wpAnyH_take (i := 3) (v := ?_) rfl (by kernel_rfl) (by kernel_rfl) (by kernel_rfl) (fun _ _ _ h => h) (Or.inl ⟨by rfl, ?_⟩) hHeld ?_
        rotate_left
        · intro wS hSw; obtain ⟨hS0, hS1⟩ := hSw; go_simp; try with_reducible rfl
        try go_simp
        refine wpAnyH_take (i := 4) (v := ?_) rfl (by kernel_rfl) (by kernel_rfl) (by kernel_rfl) (fun _ _ _ h => h) (Or.inl ⟨by rfl, ?_⟩) hHeld ?_
        rotate_left
        · intro wS hSw; obtain ⟨hS0, hS1⟩ := hSw; go_simp; try with_reducible rfl
        try go_simp
        refine wpAnyH_take (i := 5) (v := ?_) rfl (by kernel_rfl) (by kernel_rfl) (by kernel_rfl) (fun _ _ _ h => h) (Or.inl ⟨by rfl, ?_⟩) hHeld ?_
        rotate_left
        · intro wS hSw; obtain ⟨hS0, hS1⟩ := hSw; go_simp; try with_reducible rfl
        try go_simp
        refine wpAnyH_take (i := 6) (v := ?_) rfl (by kernel_rfl) (by kernel_rfl) (by kernel_rfl) (fun _ _ _ h => h) (Or.inl ⟨by rfl, ?_⟩) hHeld ?_
        rotate_left
        · intro wS hSw; obtain ⟨hS0, hS1⟩ := hSw; go_simp; try with_reducible rfl
        try go_simp
        refine wpAnyH_take (i := 7) (v := ?_) rfl (by kernel_rfl) (by kernel_rfl) (by kernel_rfl) (fun _ _ _ h => h) (Or.inl ⟨by rfl, ?_⟩) hHeld ?_
        rotate_left
        · intro wS hSw; obtain ⟨hS0, hS1⟩ := hSw; go_simp; try with_reducible rfl
        try go_simp
        refine wpAnyH_take (i := 8) (v := ?_) rfl (by kernel_rfl) (by kernel_rfl) (by kernel_rfl) (fun _ _ _ h => h) (Or.inl ⟨by rfl, ?_⟩) hHeld ?_
        rotate_left
        · intro wS hSw; obtain ⟨hS0, hS1⟩ := hSw; go_simp; try with_reducible rfl
        try go_simp
        refine wpAnyH_ready (rs := [9]) (by kernel_rfl) (by simp) ?_
        refine AllReadyH.cons rfl (fun K hK => ?_) AllReadyH.nil
        go_simp
        have hB_c : Below w.heap.size w w3.drew := below_drawn hB_w3
        refine (trip_any la ln lc ks (some (ad.add kk)) (pl - kk) (pc - kk) (pls.drop kk) pb false size _ (HK.out.below hB_c) ((HL.out.below hB_c).drop kk hk2) (by omega)).mono ?_
        rw [T2.out]
        rintro e' w4 ⟨rfl, hb_w4⟩
        have hB_w4 : Below w.heap.size w w4 := below_on hB_c hb_w4
        have p0_w4 : w4.cell? ⟨w.heap.size, 0, none⟩ = some (.slice (some ad) pl pc) := below_cell_of hb_w4 p0_w3
        have p1_w4 : w4.cell? ⟨w.heap.size, 1, none⟩ = some (.int .i64 pb) := below_cell_of hb_w4 p1_w3
        refine hK.out _ _ ?_ (fun hHeld => ?_)
        · exact ⟨p0_w4, p1_w4⟩
        clear hK K
        try go_simp
        refine wpAnyH_take (i := 10) (v := ?_) rfl (by kernel_rfl) (by kernel_rfl) (by kernel_rfl) (fun _ _ _ h => h) (Or.inl ⟨by rfl, ?_⟩) hHeld ?_
        rotate_left
        · intro wS hSw; obtain ⟨hS0, hS1⟩ := hSw; go_simp; try with_reducible rfl
        try go_simp
        refine wpAnyH_take (i := 11) (v := ?_) rfl (by kernel_rfl) (by kernel_rfl) (by kernel_rfl) (fun _ _ _ h => h) (Or.inl ⟨by rfl, ?_⟩) hHeld ?_
        rotate_left
        · intro wS hSw; obtain ⟨hS0, hS1⟩ := hSw; go_simp; try with_reducible rfl
        try go_simp
        refine wpAnyH_take (i := 12) (v := ?_) rfl (by kernel_rfl) (by kernel_rfl) (by kernel_rfl) (fun _ _ _ h => h) (Or.inl ⟨by rfl, ?_⟩) hHeld ?_
        rotate_left
        · intro wS hSw; obtain ⟨hS0, hS1⟩ := hSw; go_simp; try with_reducible rfl
        try go_simp
        refine wpAnyH_take (i := 13) (v := ?_) rfl (by kernel_rfl) (by kernel_rfl) (by kernel_rfl) (fun _ _ _ h => h) (Or.inl ⟨by rfl, ?_⟩) hHeld ?_
        rotate_left
        · intro wS hSw; obtain ⟨hS0, hS1⟩ := hSw; go_simp; try with_reducible rfl
        try go_simp
        refine wpAnyH_take (i := 14) (v := ?_) rfl (by kernel_rfl) (by kernel_rfl) (by kernel_rfl) (fun _ _ _ h => h) (Or.inl ⟨by rfl, ?_⟩) hHeld ?_
        rotate_left
        · intro wS hSw; obtain ⟨hS0, hS1⟩ := hSw; go_simp; try with_reducible rfl
        try go_simp
        refine wpAnyH_done (by kernel_rfl) ?_ _
        clear hHeld
        obtain rfl := T3.out
        clear T1 T2 T3 HT HL
        go_wp2
        go_ret
        exact ⟨rfl, hB_w4⟩
    · have he' : (e != 0) = true := by simpa using he
      go_wp2
      go_ret
      exact ⟨rfl, hB_w2⟩
  · have h20' : (decide (ln ≤ 20) && decide (pl ≤ 20)) = false := by
      rw [Bool.and_eq_false_iff, decide_eq_false_iff_not, decide_eq_false_iff_not]
      omega
    have H20 := Lib.hid h20'
    clear h20' h20
    go_wp2_with fail
    refine (few_any la ln lc (some ⟨w1.heap.size, 0, none⟩) 1 1 [⟨pa, pl, pc, pls, pb, pu⟩] _ (rdP_one (by go_simp) (by go_simp) (by go_simp) ⟨HL.out.below (below_new hB_w1 _), hlm⟩) (by omega)).mono ?_
    rw [fewB_one2, show (decide (ln ≤ 20) && decide ((PathV.mk pa pl pc pls pb pu).len ≤ 20)) = false from H20.out]
    rintro e' w1' ⟨rfl, rfl⟩
    go_wp2
    go_ret
    exact ⟨rfl, below_new hB_w1 _⟩
end Go.Proofs.Ytjjplcjinhcpiaa
