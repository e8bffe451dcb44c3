/- What is wrong with a path: the walk of the function with the loop over the hops. -/
import Derived.Test.YtjjplcjinhcpiaaRoHops
namespace Go.Proofs.Ytjjplcjinhcpiaa
open Go.RowKit Go.Shelf

attribute [local go_sem] Oper.semAt_some

/-- The links of the hops that have come. -/
def linksOf {q : Int → Prop} (pre : List (Hop q)) : List Int := pre.map (·.1.2)
theorem linksOf_snoc {q : Int → Prop} (pre : List (Hop q)) (x : Hop q) : linksOf (pre ++ [x]) = linksOf pre ++ [x.1.2] := by simp [linksOf]
theorem linksOf_hops {q : Int → Prop} {pre : List (Hop q)} {ls : List Int} {k : Nat} (h : pre.map (·.1) = hopsTo ls k) (hk : k ≤ ls.length) : linksOf pre = ls.take k := by
  unfold linksOf
  rw [← hopsTo_snd ls k hk, ← h, List.map_map]
  rfl
abbrev Any' : Int → Prop := fun _ => True

/-- Between two rounds: the array says which links have come, the flag whether one came twice. -/
structure WrI (B : Nat) (many : Int) (a : Option Addr) (len cap : Nat) (back : Int) (up : Bool) (pre : List (Hop Any')) (W : World) : Prop where
  cmany : W.cell? ⟨B, 0, none⟩ = some (.int .i64 many)
  p0 : W.cell? ⟨B + 1, 0, none⟩ = some (.slice a len cap)
  p1 : W.cell? ⟨B + 1, 1, none⟩ = some (.int .i64 back)
  p2 : W.cell? ⟨B + 1, 2, none⟩ = some (.bool up)
  res : W.cell? ⟨B + 1 + 1, 0, none⟩ = some (.int .i64 0)
  fres : W.frozen? ⟨B + 1 + 1, 0, none⟩ = false
  seen : ∀ j : Nat, j < 8 → W.cell? ⟨B + 1 + 1 + 1, j, none⟩ = some (.bool (decide ((j : Int) ∈ linksOf pre)))
  fseen : ∀ j : Nat, j < 8 → W.frozen? ⟨B + 1 + 1 + 1, j, none⟩ = false
  loop : W.cell? ⟨B + 1 + 1 + 1 + 1, 0, none⟩ = some (.bool (!decide (linksOf pre).Nodup))
  floop : W.frozen? ⟨B + 1 + 1 + 1 + 1, 0, none⟩ = false
  all : ∀ x, x ∈ linksOf pre → Ro.inside x 0 (many - 1) = true

theorem WrI.own (B : Nat) (many : Int) (a : Option Addr) (len cap : Nat) (back : Int) (up : Bool) : Own (WrI B many a len cap back up) := fun _ _ _ _ hs hg hr =>
  ⟨cell_kept hs.cmany hg hr, cell_kept hs.p0 hg hr, cell_kept hs.p1 hg hr, cell_kept hs.p2 hg hr, cell_kept hs.res hg hr, (frozen_kept hs.res hg hr).trans hs.fres,
    fun j hj => cell_kept (hs.seen j hj) hg hr, fun j hj => (frozen_kept (hs.seen j hj) hg hr).trans (hs.fseen j hj), cell_kept hs.loop hg hr, (frozen_kept hs.loop hg hr).trans hs.floop, hs.all⟩
/-- What a round that goes on does. -/
theorem WrI.step {B : Nat} {many : Int} {a : Option Addr} {len cap : Nat} {back : Int} {up : Bool} {pre : List (Hop Any')} {W : World} (h : WrI B many a len cap back up pre W) (hop j : Nat) (hj : j < 8) (hin : Ro.inside j 0 (many - 1) = true) {f : Bool} (hf : f = (!decide (linksOf pre).Nodup || decide ((j : Int) ∈ linksOf pre))) :
    WrI B many a len cap back up (pre ++ [⟨(hop, (j : Int)), trivial⟩]) ((W.setCell ⟨B + 1 + 1 + 1 + 1, 0, none⟩ (.bool f)).setCell ⟨B + 1 + 1 + 1, j, none⟩ (.bool true)) := by
  have two : ∀ {p : Addr} {v : Value}, W.cell? p = some v → p.block ≠ B + 1 + 1 + 1 + 1 → p.block ≠ B + 1 + 1 + 1 → ((W.setCell ⟨B + 1 + 1 + 1 + 1, 0, none⟩ (.bool f)).setCell ⟨B + 1 + 1 + 1, j, none⟩ (.bool true)).cell? p = some v := fun hc h1 h2 => cell_set_ne (cell_set_ne hc h1) h2
  have hl : linksOf (pre ++ [(⟨(hop, (j : Int)), trivial⟩ : Hop Any')]) = linksOf pre ++ [(j : Int)] := linksOf_snoc _ _
  refine ⟨two h.cmany (by dsimp only; omega) (by dsimp only; omega), two h.p0 (by dsimp only; omega) (by dsimp only; omega), two h.p1 (by dsimp only; omega) (by dsimp only; omega), two h.p2 (by dsimp only; omega) (by dsimp only; omega), two h.res (by dsimp only; omega) (by dsimp only; omega), ?_, fun i hi => ?_, fun i hi => ?_, ?_, ?_, fun x hx => ?_⟩
  · rw [World.frozen?_setCell, World.frozen?_setCell]; exact h.fres
  · have h1 : (W.setCell ⟨B + 1 + 1 + 1 + 1, 0, none⟩ (.bool f)).cell? ⟨B + 1 + 1 + 1, i, none⟩ = some (.bool (decide ((i : Int) ∈ linksOf pre))) := cell_set_ne (h.seen i hi) (by simp)
    rw [hl]
    by_cases e : i = j
    · subst e
      rw [World.cell?_setCell_same' _ _ _ (by rw [h1]; rfl)]
      simp
    · rw [World.cell?_setCell_other _ _ _ _ (by intro k; injection k with _ k; exact e k.symm), h1]
      have : ¬ (i : Int) = (j : Int) := by omega
      simp [this]
  · rw [World.frozen?_setCell, World.frozen?_setCell]; exact h.fseen i hi
  · rw [World.cell?_setCell_other _ _ _ _ (by simp), World.cell?_setCell_same' _ _ _ (by rw [h.loop]; rfl), hl, hf]
    have e : (linksOf pre ++ [(j : Int)]).Nodup ↔ (linksOf pre).Nodup ∧ (j : Int) ∉ linksOf pre := by
      rw [List.nodup_append]
      constructor
      · exact fun h => ⟨h.1, fun hm => h.2.2 _ hm _ (List.mem_singleton.2 rfl) rfl⟩
      · exact fun h => ⟨h.1, by simp, fun x hx y hy e => h.2 (by rw [List.mem_singleton.1 hy] at e; exact e ▸ hx)⟩
    congr 2
    by_cases h1 : (linksOf pre).Nodup <;> by_cases h2 : (j : Int) ∈ linksOf pre <;> simp [e, h1, h2]
  · rw [World.frozen?_setCell, World.frozen?_setCell]; exact h.floop
  · rw [hl, List.mem_append] at hx
    rcases hx with hx | hx
    · exact h.all x hx
    · simp at hx; rw [hx]; exact hin
/-- A round left by the return: a link that is none. -/
structure WrX (B : Nat) (many : Int) (c : Code) (pre : List (Hop Any')) (W : World) : Prop where
  ret : c = .ret
  bad : ∃ x, x ∈ linksOf pre ∧ Ro.inside x 0 (many - 1) = false
  res : W.cell? ⟨B + 1 + 1, 0, none⟩ = some (.int .i64 4)
theorem WrX.own (B : Nat) (many : Int) (c : Code) : Own (WrX B many c) := fun _ _ _ _ hs hg hr => ⟨hs.ret, hs.bad, cell_kept hs.res hg hr⟩

/-- The world in which the loop begins. -/
def wrongW (w : World) (many : Int) (a : Option Addr) (len cap : Nat) (back : Int) (up : Bool) : World :=
  (((((w.alloc (.cells #[.int .i64 many] 3)).alloc (.cells #[.slice a len cap, .int .i64 back, .bool up] 26)).alloc (.cells #[.int .i64 0] 31)).alloc
    (.cells #[.bool false, .bool false, .bool false, .bool false, .bool false, .bool false, .bool false, .bool false] 38)).alloc (.cells #[.bool false] 4)).alloc (.cells #[.slice a len cap, .int .i64 back, .bool up] 26)
theorem wrongW_size (w : World) (many : Int) (a : Option Addr) (len cap : Nat) (back : Int) (up : Bool) : (wrongW w many a len cap back up).heap.size = w.heap.size + 1 + 1 + 1 + 1 + 1 + 1 := by simp [wrongW]
theorem wrongW_below (w : World) (many : Int) (a : Option Addr) (len cap : Nat) (back : Int) (up : Bool) : Below w.heap.size w (wrongW w many a len cap back up) :=
  below_new (below_new (below_new (below_new (below_new (below_new (Below.refl _ _) _) _) _) _) _) _
theorem wrongW_p (w : World) (many : Int) (a : Option Addr) (len cap : Nat) (back : Int) (up : Bool) :
    (wrongW w many a len cap back up).cell? ⟨w.heap.size + 1 + 1 + 1 + 1 + 1, 0, none⟩ = some (.slice a len cap) ∧ (wrongW w many a len cap back up).cell? ⟨w.heap.size + 1 + 1 + 1 + 1 + 1, 1, none⟩ = some (.int .i64 back) ∧
    (wrongW w many a len cap back up).cell? ⟨w.heap.size + 1 + 1 + 1 + 1 + 1, 2, none⟩ = some (.bool up) := by
  unfold wrongW
  exact ⟨by go_simp, by go_simp, by go_simp⟩
theorem wrongW_start (w : World) (many : Int) (a : Option Addr) (len cap : Nat) (back : Int) (up : Bool) : WrI w.heap.size many a len cap back up [] (wrongW w many a len cap back up) := by
  have e : linksOf ([] : List (Hop Any')) = [] := rfl
  refine ⟨by unfold wrongW; go_simp, by unfold wrongW; go_simp, by unfold wrongW; go_simp, by unfold wrongW; go_simp, by unfold wrongW; go_simp, by unfold wrongW; go_simp, fun j hj => ?_, fun j hj => ?_, ?_, by unfold wrongW; go_simp, fun x hx => by rw [e] at hx; cases hx⟩
  · rw [e]
    unfold wrongW
    match j, hj with
    | 0, _ | 1, _ | 2, _ | 3, _ | 4, _ | 5, _ | 6, _ | 7, _ => go_simp
  · unfold wrongW
    match j, hj with
    | 0, _ | 1, _ | 2, _ | 3, _ | 4, _ | 5, _ | 6, _ | 7, _ => go_simp
  · rw [e]
    unfold wrongW
    go_simp

set_option maxRecDepth 100000 in
set_option maxHeartbeats 4000000 in
theorem wrong_in (many : Int) (a : Option Addr) (len cap : Nat) (ls : List Int) (back : Int) (up : Bool) (w : World) (h0 : 0 ≤ many) (h8 : many ≤ 8) (hl : RdI w .i64 a len ls) (hi : Ro.inside len 1 6 = true) :
    CallsIn Fence.wide 4 Try.prog 26 #[.int .i64 many, .agg #[.slice a len cap, .int .i64 back, .bool up]] w fun e w' => e = .returned (.int .i64 (Ro.wrong many ls back)) ∧ Below w.heap.size w w' := by
  have hz := hl.1
  obtain ⟨k1, k2⟩ := (Ro.inside_iff _ _ _).1 hi
  have hab : ∀ ad, a = some ad → ad.block < w.heap.size := by
    intro ad e
    obtain ⟨ad', e', hc⟩ := hl.2 0 (by omega)
    rw [e] at e'
    injection e' with e'
    subst e'
    have := World.block_lt_of_cell? _ _ hc
    have e3 : (ad.add 0).block = ad.block := by unfold Addr.add; split <;> rfl
    rwa [e3] at this
  have HL := Lib.hid hl
  have HI := Lib.hid hi
  have HZ := Lib.hid hz
  have HAB := Lib.hid hab
  clear hl hi hz hab
  have hlen : len < 7 := by omega
  have hlen1 : 0 < len := by omega
  clear k1 k2
  refine callsIn_of_wp_marks Try.func26 rfl trivial ?_ rfl
  simp only [Try.ntmps26, List.size_toArray, List.length_cons, List.length_nil, Nat.reduceAdd, Nat.reduceSub, Array.replicate_succ, Array.replicate_zero, List.push_toArray, List.append_toArray, List.nil_append, List.cons_append]
  gi_wp2
  refine ⟨trivial, ?_⟩
  refine (callsIn_wide.2 (inside_any len 1 6 _)).mono ?_
  rw [HI.out]
  rintro e w1 ⟨rfl, rfl⟩
  gi_wp2
  refine ⟨trivial, ?_⟩
  refine (callsIn_wide.2 (hops_any a len cap back up _)).mono ?_
  rintro e w1 ⟨rfl, rfl⟩
  gi_wp2
  refine wpIn_rangeFunc_ownF (w := wrongW w many a len cap back up) rfl (by omega) (gf := 30) (lb := #[.pointer (some ⟨w.heap.size + 1 + 1 + 1 + 1 + 1, 0, none⟩)]) rfl trivial (enters_of Try.func30 (by kernel_rfl) rfl)
    (hops_stops (q := Any') 3 (by omega) (w.heap.size + 1 + 1 + 1 + 1 + 1) w.heap.size a len cap back up ls (by omega) HAB.out (fun _ _ => trivial) (wrongW w many a len cap back up) (wrongW_p ..).1 (wrongW_p ..).2.1 (wrongW_p ..).2.2 (HL.out.below (wrongW_below ..))) KC.trans (fun W l o o' _ h hc _ => KC.put W l o o' h hc) (Below.refl _ _) (fun _ => rfl)
    (fun pre W => WrI w.heap.size many a len cap back up pre W ∧ Below w.heap.size w W) (fun c pre W => WrX w.heap.size many c pre W ∧ Below w.heap.size w W)
    (OwnFrom.and ((WrI.own _ _ _ _ _ _ _).from _) (ownFrom_below (Nat.le_refl _) (by rw [wrongW_size]; omega))) (fun c => OwnFrom.and ((WrX.own _ _ c).from _) (ownFrom_below (Nat.le_refl _) (by rw [wrongW_size]; omega)))
    ⟨wrongW_start .., wrongW_below ..⟩
    (fun x => { tmps := #[.int .i64 many, .agg #[.slice a len cap, .int .i64 back, .bool up], .pointer (some ⟨w.heap.size, 0, none⟩), .pointer (some ⟨w.heap.size + 1, 0, none⟩), .pointer (some ⟨w.heap.size + 1 + 1, 0, none⟩), .pointer (some ⟨w.heap.size + 1 + 1 + 1, 0, none⟩), .pointer (some ⟨w.heap.size + 1 + 1 + 1 + 1, 0, none⟩), undef, .int .i64 x.1.2,
      .pointer (some ⟨w.heap.size + 1, 0, none⟩), .slice a len cap, .int .i64 len, .bool true, .bool false, .agg #[.slice a len cap, .int .i64 back, .bool up], .func (.func 30) #[] #[.pointer (some ⟨w.heap.size + 1 + 1 + 1 + 1 + 1, 0, none⟩)], .int .i64 x.1.1, .int .i64 x.1.2,
      undef, undef, undef, undef, undef, undef, undef, undef, undef, undef, undef, undef, undef, undef, undef, undef, undef, undef, undef, undef], defers := [] }) ?assign ?body ?done ?stop
  case assign =>
    intro l x W K hK
    gi_wp2
    exact hK
  case body =>
    rintro l pre ⟨⟨hop, link⟩, _⟩ W ⟨hi, hB⟩ hlen
    have HW := Lib.hid hi
    have HB := Lib.hid hB
    have hm := hi.cmany
    have hr := hi.res
    have hfr := hi.fres
    have hlp := hi.loop
    have hfl := hi.floop
    clear hi hB hlen
    gi_wp2
    refine ⟨trivial, ?_⟩
    refine (callsIn_wide.2 (inside_any link 0 (many - 1) _)).mono ?_
    cases hin : Ro.inside link 0 (many - 1) with
    | false =>
      have HN := Lib.hid hin
      clear hin
      rintro e w1 ⟨rfl, rfl⟩
      gi_wp2
      exact ⟨KeepsOthers.setCell _ _ _, ⟨rfl, ⟨link, by rw [linksOf_snoc]; simp, HN.out⟩, World.cell?_setCell_same' _ _ _ (by rw [hr]; rfl)⟩, below_set HB.out (by dsimp only; omega) _⟩
    | true =>
      have HN := Lib.hid hin
      obtain ⟨l0, l1⟩ := (Ro.inside_iff _ _ _).1 hin
      obtain ⟨j, rfl⟩ : ∃ j : Nat, link = j := ⟨link.toNat, by omega⟩
      have hj : j < 8 := by omega
      have hs := HW.out.seen j hj
      have hfs := HW.out.fseen j hj
      clear hin l0 l1
      rintro e w1 ⟨rfl, rfl⟩
      obtain ⟨S, hS⟩ : ∃ S : Bool, decide ((j : Int) ∈ linksOf pre) = S := ⟨_, rfl⟩
      obtain ⟨L, hL⟩ : ∃ L : Bool, (!decide (linksOf pre).Nodup) = L := ⟨_, rfl⟩
      rw [hS] at hs
      rw [hL] at hlp
      have HS := Lib.hid hS
      have HLL := Lib.hid hL
      clear hS hL
      have fin : ∀ f : Bool, f = (L || S) → ownPostK (KC w.heap.size (w.heap.size + 1 + 1 + 1 + 1 + 1)) (fun pre W => WrI w.heap.size many a len cap back up pre W ∧ Below w.heap.size w W) (fun c pre W => WrX w.heap.size many c pre W ∧ Below w.heap.size w W)
          (pre ++ [⟨(hop, (j : Int)), trivial⟩]) w1 .normal { tmps := #[], defers := [] } ((w1.setCell ⟨w.heap.size + 1 + 1 + 1 + 1, 0, none⟩ (.bool f)).setCell ⟨w.heap.size + 1 + 1 + 1, j, none⟩ (.bool true)) := fun f hf =>
        ⟨(KeepsOthers.setCell _ _ _).trans (KeepsOthers.setCell _ _ _), (KC.set _ _ (by dsimp only; omega) (by dsimp only; omega)).trans (KC.set _ _ (by dsimp only; omega) (by dsimp only; omega)),
          HW.out.step hop j hj HN.out (by rw [hf, ← HS.out, ← HLL.out]), below_set (below_set HB.out (by dsimp only; omega) _) (by dsimp only; omega) _⟩
      have FIN := Lib.hid fin
      clear fin
      cases L
      · gi_wp2
        exact FIN.out S (by simp)
      · gi_wp2
        exact FIN.out true (by simp)
  case done =>
    rintro D ys W hD hys ⟨hi, hB⟩ hK
    have hlk : linksOf ys = ls := by rw [linksOf_hops hys (by have := HZ.out; omega), List.take_of_length_le (by have := HZ.out; omega)]
    have hall := Lib.hid hi.all
    rw [hlk] at hall
    have hlp := hi.loop
    have hr := hi.res
    have hfr := hi.fres
    have hp1 := hi.p1
    rw [hlk] at hlp
    have HB := Lib.hid hB
    have HKK := Lib.hid hK
    have hDB := Lib.hid hD
    have HLZ := Lib.hid (Ro.wrong_all (many := many) (ls := ls) (back := back) (by rw [HZ.out]; exact HI.out) hall.out)
    clear hi hB hK hD hys hlk
    by_cases hnd : ls.Nodup
    · have HND := Lib.hid hnd
      rw [decide_eq_true hnd] at hlp
      clear hnd
      gi_wp2
      refine ⟨trivial, ?_⟩
      refine (callsIn_wide.2 (inside_any back 0 1000000 _)).mono ?_
      cases hb : Ro.inside back 0 1000000 with
      | true =>
        have HBK := Lib.hid hb
        clear hb
        rintro e w1 ⟨rfl, rfl⟩
        gi_wp2
        have hK' := (KeepsOthers.setCell w1 ⟨w.heap.size + 1 + 1, 0, none⟩ (.int .i64 0)).same D _ HKK.out rfl
        refine ⟨by simp, .inl ⟨_, _, rfl, run_takeDeferred hK', ?_⟩⟩
        have hc5 := cell_kept (World.cell?_setCell_same' w1 ⟨w.heap.size + 1 + 1, 0, none⟩ (.int .i64 0) (by rw [hr]; rfl)) (grownBy_putObj' _ D (.deferred none)) (fun r e => by cases e; exact ⟨_, hK', rfl⟩)
        refine ⟨.int .i64 0, ?_, by rw [HLZ.out, if_pos HND.out, if_pos HBK.out], (below_set HB.out (p := ⟨w.heap.size + 1 + 1, 0, none⟩) (by dsimp only; omega) _).trans (belowK_b (w := w) (Nat.le_refl _) _ D _ _ (by have := hDB.out; rw [wrongW_size] at this; omega) hK' rfl rfl)⟩
        simp [results, Try.f26, go_sem, hc5]
      | false =>
        have HBK := Lib.hid hb
        clear hb
        rintro e w1 ⟨rfl, rfl⟩
        gi_wp2
        have hK' := (KeepsOthers.setCell w1 ⟨w.heap.size + 1 + 1, 0, none⟩ (.int .i64 3)).same D _ HKK.out rfl
        refine ⟨by simp, .inl ⟨_, _, rfl, run_takeDeferred hK', ?_⟩⟩
        have hc5 := cell_kept (World.cell?_setCell_same' w1 ⟨w.heap.size + 1 + 1, 0, none⟩ (.int .i64 3) (by rw [hr]; rfl)) (grownBy_putObj' _ D (.deferred none)) (fun r e => by cases e; exact ⟨_, hK', rfl⟩)
        refine ⟨.int .i64 3, ?_, by rw [HLZ.out, if_pos HND.out, if_neg (by rw [HBK.out]; decide)], (below_set HB.out (p := ⟨w.heap.size + 1 + 1, 0, none⟩) (by dsimp only; omega) _).trans (belowK_b (w := w) (Nat.le_refl _) _ D _ _ (by have := hDB.out; rw [wrongW_size] at this; omega) hK' rfl rfl)⟩
        simp [results, Try.f26, go_sem, hc5]
    · have HND := Lib.hid hnd
      rw [decide_eq_false hnd] at hlp
      clear hnd
      gi_wp2
      have hK' := (KeepsOthers.setCell W ⟨w.heap.size + 1 + 1, 0, none⟩ (.int .i64 16)).same D _ HKK.out rfl
      refine ⟨by simp, .inl ⟨_, _, rfl, run_takeDeferred hK', ?_⟩⟩
      have hc5 := cell_kept (World.cell?_setCell_same' W ⟨w.heap.size + 1 + 1, 0, none⟩ (.int .i64 16) (by rw [hr]; rfl)) (grownBy_putObj' _ D (.deferred none)) (fun r e => by cases e; exact ⟨_, hK', rfl⟩)
      refine ⟨.int .i64 16, ?_, by rw [HLZ.out, if_neg HND.out], (below_set HB.out (p := ⟨w.heap.size + 1 + 1, 0, none⟩) (by dsimp only; omega) _).trans (belowK_b (w := w) (Nat.le_refl _) _ D _ _ (by have := hDB.out; rw [wrongW_size] at this; omega) hK' rfl rfl)⟩
      simp [results, Try.f26, go_sem, hc5]
  case stop =>
    rintro D c pre W hD ⟨k, hk, hp⟩ ⟨⟨rfl, hbad, hr⟩, hB⟩ hK
    have hw : Ro.wrong many ls back = 4 := by
      refine Ro.wrong_none (by rw [HZ.out]; exact HI.out) ?_
      obtain ⟨x, hx, hn⟩ := hbad
      rw [linksOf_hops hp (by have := HZ.out; omega)] at hx
      exact ⟨x, List.mem_of_mem_take hx, hn⟩
    have HB := Lib.hid hB
    have HWW := Lib.hid hw
    have hDB := Lib.hid hD
    clear hbad hB hw hp hD
    gi_wp2
    refine ⟨by simp, .inl ⟨_, _, rfl, run_takeDeferred hK, ?_⟩⟩
    have hc5 := cell_kept hr (grownBy_putObj' _ D (.deferred none)) (fun r e => by cases e; exact ⟨_, hK, rfl⟩)
    refine ⟨.int .i64 4, ?_, by rw [HWW.out], HB.out.trans (belowK_b (w := w) (Nat.le_refl _) _ D _ _ (by have := hDB.out; rw [wrongW_size] at this; omega) hK rfl rfl)⟩
    simp [results, Try.f26, go_sem, hc5]

/-- What is wrong with a path, whatever the path. -/
theorem wrong_any (many : Int) (a : Option Addr) (len cap : Nat) (ls : List Int) (back : Int) (up : Bool) (w : World) (h0 : 0 ≤ many) (h8 : many ≤ 8) (hl : RdI w .i64 a len ls) :
    Calls Try.prog 26 #[.int .i64 many, .agg #[.slice a len cap, .int .i64 back, .bool up]] w fun e w' => e = .returned (.int .i64 (Ro.wrong many ls back)) ∧ Below w.heap.size w w' := by
  cases hi : Ro.inside len 1 6 with
  | true => exact callsIn_wide.1 (wrong_in many a len cap ls back up w h0 h8 hl hi)
  | false =>
    have hw := Lib.hid (Ro.wrong_long (many := many) (ls := ls) (back := back) (by rw [hl.1]; exact hi))
    have HI := Lib.hid hi
    clear hi hl
    go_enter Try.func26, Try.ntmps26
    go_wp2_with fail
    refine (inside_any len 1 6 _).mono ?_
    rw [HI.out]
    rintro e w1 ⟨rfl, rfl⟩
    go_wp2
    refine bodyPost_ret (v := .int .i64 1) (by simp [results, Try.f26, go_sem]) rfl ⟨by rw [hw.out], ?_⟩
    (repeat (first | assumption | exact Below.refl _ _ | refine below_set ?_ (by first | omega | (simp; done) | (simp; omega)) _ | refine below_new ?_ _))
end Go.Proofs.Ytjjplcjinhcpiaa
