/- A trip: the walk of the function with the loop over the hops. -/
import Derived.Test.YtjjplcjinhcpiaaRoRound
import Derived.Laws.EntriesVeiled
import Derived.Deep.MidRow
import Derived.Deep.WholeRow
namespace Go.Proofs.Ytjjplcjinhcpiaa
open Go.RowKit Go.Shelf

attribute [local go_sem] Oper.semAt_some

/-- A link in memory: its rate, its delay, and 25 more cells. -/
structure LinkV where
  r : Int
  d : Int
  X : Nat → Value
instance : Inhabited LinkV := ⟨⟨0, 0, fun _ => undef⟩⟩
def LinkV.plain (l : LinkV) : Int × Int := (l.r, l.d)
/-- The 27 cells of a link. -/
abbrev linkList (r d : Int) (X : Nat → Value) : List Value := [.int .i64 r, .int .i64 d, X 2, X 3, X 4, X 5, X 6, X 7, X 8, X 9, X 10, X 11, X 12, X 13, X 14, X 15, X 16, X 17, X 18, X 19, X 20, X 21, X 22, X 23, X 24, X 25, X 26]
/-- The slice value with this address and length reads as these links. -/
def RdK (w : World) (a : Option Addr) (n : Nat) (ks : List LinkV) : Prop :=
  ks.length = n ∧ ∀ i, i < n → ∃ b o, a = some ⟨b, o, none⟩ ∧ w.rangeAt b (o + i * 27) (linkList (ks.getD i default).r (ks.getD i default).d (ks.getD i default).X) ∧ (linkList (ks.getD i default).r (ks.getD i default).d (ks.getD i default).X).toArray.all (·.oneCell') = true
theorem rangeAt_below {w w1 : World} {b o : Nat} {cs : List Value} (h : w.rangeAt b o cs) (hb : Below w.heap.size w w1) : w1.rangeAt b o cs := fun j v hv => below_cell_of hb (h j v hv)
theorem RdK.below {w w1 : World} {a : Option Addr} {n : Nat} {ks : List LinkV} (h : RdK w a n ks) (hb : Below w.heap.size w w1) : RdK w1 a n ks :=
  ⟨h.1, fun i hi => by
    obtain ⟨b, o, e, hr, h1⟩ := h.2 i hi
    exact ⟨b, o, e, rangeAt_below hr hb, h1⟩⟩
/-- A link is loaded as a whole. -/
theorem load_link {w : World} {b o : Nat} {r d : Int} {X : Nat → Value} (h : w.rangeAt b o (linkList r d X)) : (Instr.loadAt 53 (.pointer (some ⟨b, o, none⟩))).run Try.prog w = .ok (linkVal r d X) w :=
  run_loadAt_mid w b o 53 (linkList r d X) _ h Try.underlying53 rfl (by kernel_rfl)

/-- A struct is stored as a whole into a new block. -/
theorem wpList_store_new {P : Program} {ops : Array Oper} {rest : List Oper} {op : Oper} {a : Act} {w : World} {Q : Exit → Act → World → Prop} (hgd : op.guard = none) (ty : TypeId) (x y : Operand) (ho : op.op = .store ty x y) (c c' : Array Value)
    (hx : a.eval x = .pointer (some ⟨w.heap.size, 0, none⟩)) (hy : a.eval y = .agg c') (hi : (P.info? ty).map (·.size) = some c'.size) (hc : c.size = c'.size) (h1 : c'.all (·.oneCell') = true)
    (h : wpList P ops Q rest (a.put op.dst undef) (w.alloc (.cells c' ty))) : wpList P ops Q (op :: rest) a (w.alloc (.cells c ty)) :=
  wpList_plain hgd fun _ hK => by
    unfold Oper.wp execOp
    simp only [ho, hx, hy, Instr.storeAt, Instr.sureAddr, Sem.run_bind, Sem.run_pure, Result.andThen_ok, run_storeVar_new w ty c c' hi hc h1]
    exact hK _ _ h

theorem snoc_ind {α : Type} {P : List α → Prop} (h0 : P []) (h : ∀ xs x, P xs → P (xs ++ [x])) (xs : List α) : P xs := by
  rw [← xs.reverse_reverse]
  induction xs.reverse with
  | nil => exact h0
  | cons a l ih => rw [List.reverse_cons]; exact h _ _ ih
/-- Where the trip stands when some links have been passed: whether all were right, and the time. -/
def tripSt (links : List (Int × Int)) (back size : Int) (xs : List Int) : Bool × Int :=
  xs.foldl (fun s x => (s.1 && Ro.fine (links.getD x.toNat (0, 0)), if (s.1 && Ro.fine (links.getD x.toNat (0, 0))) = true then s.2 + Ro.takes size (links.getD x.toNat (0, 0)) else s.2)) (true, back)
theorem tripSt_snoc (links : List (Int × Int)) (back size : Int) (xs : List Int) (x : Int) : tripSt links back size (xs ++ [x]) =
    ((tripSt links back size xs).1 && Ro.fine (links.getD x.toNat (0, 0)), if ((tripSt links back size xs).1 && Ro.fine (links.getD x.toNat (0, 0))) = true then (tripSt links back size xs).2 + Ro.takes size (links.getD x.toNat (0, 0)) else (tripSt links back size xs).2) := by
  unfold tripSt
  rw [List.foldl_append]
  rfl
theorem tripSt_eq (links : List (Int × Int)) (back size : Int) (xs : List Int) : (tripSt links back size xs).1 = xs.all (fun x => Ro.fine (links.getD x.toNat (0, 0))) ∧
    ((tripSt links back size xs).1 = true → (tripSt links back size xs).2 = back + (xs.map fun x => Ro.takes size (links.getD x.toNat (0, 0))).sum) := by
  refine snoc_ind (P := fun xs => (tripSt links back size xs).1 = xs.all (fun x => Ro.fine (links.getD x.toNat (0, 0))) ∧
    ((tripSt links back size xs).1 = true → (tripSt links back size xs).2 = back + (xs.map fun x => Ro.takes size (links.getD x.toNat (0, 0))).sum)) ⟨rfl, fun _ => by simp [tripSt]⟩ (fun xs x ih => ?_) xs
  · skip
    rw [tripSt_snoc]
    obtain ⟨h1, h2⟩ := ih
    refine ⟨by simp [h1], fun h => ?_⟩
    simp only at h
    rw [if_pos h]
    rw [Bool.and_eq_true] at h
    rw [h2 h.1]
    simp [Int.add_assoc]
theorem takes_bd {size : Int} {l : Int × Int} (h0 : 1 ≤ size) (h1 : size ≤ 10000) (h : Ro.fine l = true) : 1 ≤ Ro.takes size l ∧ Ro.takes size l ≤ 12000000 := by
  unfold Ro.fine at h
  rw [Bool.and_eq_true, Ro.inside_iff, Ro.inside_iff] at h
  obtain ⟨⟨r0, r1⟩, d0, d1⟩ := h
  unfold Ro.takes
  rw [Int.tdiv_eq_ediv_of_nonneg (by omega)]
  have e1 : 1 ≤ (1000 * size + l.1 - 1) / l.1 := (Int.le_ediv_iff_mul_le (by omega)).2 (by omega)
  have e2 : (1000 * size + l.1 - 1) / l.1 ≤ 1000 * size + l.1 - 1 := Int.ediv_le_self _ (by omega)
  omega
theorem tripSt_bd {links : List (Int × Int)} {back size : Int} (b0 : 0 ≤ back) (b1 : back ≤ 1000000) (h0 : 1 ≤ size) (h1 : size ≤ 10000) (xs : List Int) : 0 ≤ (tripSt links back size xs).2 ∧ (tripSt links back size xs).2 ≤ 1000000 + 12000000 * (xs.length : Int) := by
  refine snoc_ind (P := fun xs => 0 ≤ (tripSt links back size xs).2 ∧ (tripSt links back size xs).2 ≤ 1000000 + 12000000 * (xs.length : Int)) ⟨b0, by simp [tripSt]; omega⟩ (fun xs x ih => ?_) xs
  · skip
    rw [tripSt_snoc, List.length_append]
    simp only [List.length_cons, List.length_nil]
    split
    · rename_i h
      rw [Bool.and_eq_true] at h
      have := takes_bd h0 h1 h.2
      omega
    · omega

/-- Between two rounds. B0: where the call began; B: where time and fine lie; the closure. -/
structure TrI (B0 B : Nat) (la : Option Addr) (ln lc : Nat) (size : Int) (links : List (Int × Int)) (back : Int) (xs : List Int) (W : World) : Prop where
  clinks : W.cell? ⟨B0, 0, none⟩ = some (.slice la ln lc)
  csize : W.cell? ⟨B0 + 1 + 1, 0, none⟩ = some (.int .i64 size)
  time : W.cell? ⟨B, 0, none⟩ = some (.int .i64 (tripSt links back size xs).2)
  ftime : W.frozen? ⟨B, 0, none⟩ = false
  fine : W.cell? ⟨B + 1, 0, none⟩ = some (.bool (tripSt links back size xs).1)
  ffine : W.frozen? ⟨B + 1, 0, none⟩ = false
  pass : W.cell? ⟨B + 1 + 1, 0, none⟩ = some (.func (.func 23) #[] #[.pointer (some ⟨B + 1, 0, none⟩), .pointer (some ⟨B, 0, none⟩), .pointer (some ⟨B0 + 1 + 1, 0, none⟩)])
theorem TrI.own {q : Int → Prop} (B0 B : Nat) (la : Option Addr) (ln lc : Nat) (size : Int) (links : List (Int × Int)) (back : Int) : Own (fun (pre : List (Hop q)) W => TrI B0 B la ln lc size links back (linksOf pre) W) := fun _ _ _ _ hs hg hr =>
  ⟨cell_kept hs.clinks hg hr, cell_kept hs.csize hg hr, cell_kept hs.time hg hr, (frozen_kept hs.time hg hr).trans hs.ftime, cell_kept hs.fine hg hr, (frozen_kept hs.fine hg hr).trans hs.ffine, cell_kept hs.pass hg hr⟩
/-- The world in which the loop begins: time and fine, the closure, the path. -/
def tripW (w2 : World) (Bs : Nat) (a : Option Addr) (len cap : Nat) (back : Int) (up : Bool) : World :=
  ((((w2.alloc (.cells #[.int .i64 back] 3)).alloc (.cells #[.bool true] 4)).alloc (.cells #[.func (.func 23) #[] #[.pointer (some ⟨w2.heap.size + 1, 0, none⟩), .pointer (some ⟨w2.heap.size, 0, none⟩), .pointer (some ⟨Bs, 0, none⟩)]] 59))).alloc
    (.cells #[.slice a len cap, .int .i64 back, .bool up] 26)

set_option maxRecDepth 100000 in
set_option maxHeartbeats 4000000 in
theorem trip_in (la : Option Addr) (ln lc : Nat) (ks : List LinkV) (a : Option Addr) (len cap : Nat) (ls : List Int) (back : Int) (up : Bool) (size : Int) (w : World) (hk : RdK w la ln ks) (hl : RdI w .i64 a len ls) (hml : (len : Int) ≤ 9223372036854775806)
    (hi : Ro.inside size 1 10000 = true) (hc : Ro.check ln [(ls, back)] = 0) :
    CallsIn Fence.wide 4 Try.prog 14 #[.slice la ln lc, .agg #[.slice a len cap, .int .i64 back, .bool up], .int .i64 size] w fun e w' => e = .returned (.tuple #[.int .i64 (Ro.trip (ks.map LinkV.plain) ls back size).1, .int .i64 (Ro.trip (ks.map LinkV.plain) ls back size).2]) ∧ Below w.heap.size w w' := by
  obtain ⟨s0, s1⟩ := (Ro.inside_iff _ _ _).1 hi
  have HK := Lib.hid hk
  have HL := Lib.hid hl
  have HI := Lib.hid hi
  have HC := Lib.hid hc
  clear hk hl hi hc
  refine callsIn_of_wp_marks Try.func14 rfl trivial ?_ rfl
  simp only [Try.ntmps14, List.size_toArray, List.length_cons, List.length_nil, Nat.reduceAdd, Nat.reduceSub, Array.replicate_succ, Array.replicate_zero, List.push_toArray, List.append_toArray, List.nil_append, List.cons_append]
  gi_wp2
  refine ⟨trivial, ?_⟩
  refine (callsIn_wide.2 (inside_any size 1 10000 _)).mono ?_
  rw [HI.out]
  rintro e w1 ⟨rfl, rfl⟩
  gi_wp2
  refine ⟨trivial, ?_⟩
  have hps : RdP ((((w.alloc (.cells #[.slice la ln lc] 22)).alloc (.cells #[.slice a len cap, .int .i64 back, .bool up] 26)).alloc (.cells #[.int .i64 size] 3)).alloc (.cells #[.slice a len cap, .int .i64 back, .bool up] 26)) (some ⟨w.heap.size + 1 + 1 + 1, 0, none⟩) 1 [⟨a, len, cap, ls, back, up⟩] :=
    ⟨rfl, fun i hi => by
      obtain rfl : i = 0 := by omega
      exact ⟨_, rfl, by go_simp, by go_simp, by go_simp, (HL.out.below (below_new (below_new (below_new (below_new (Below.refl _ _) _) _) _) _)), by show (len : Int) ≤ 9223372036854775807; omega⟩⟩
  refine (callsIn_wide.2 (check_any ln _ 1 1 [⟨a, len, cap, ls, back, up⟩] _ hps (by omega))).mono ?_
  rw [show ([⟨a, len, cap, ls, back, up⟩] : List PathV).map PathV.plain = [(ls, back)] from rfl, HC.out]
  rintro e w2 ⟨rfl, hb2⟩
  have hB2 := Lib.hid (below_on (below_new (below_new (below_new (below_new (Below.refl _ _) _) _) _) _) hb2)
  have l0 := below_cell_of hb2 (a := ⟨w.heap.size, 0, none⟩) (v := .slice la ln lc) (by go_simp)
  have p0 := below_cell_of hb2 (a := ⟨w.heap.size + 1, 0, none⟩) (v := .slice a len cap) (by go_simp)
  have p1 := below_cell_of hb2 (a := ⟨w.heap.size + 1, 1, none⟩) (v := .int .i64 back) (by go_simp)
  have p2 := below_cell_of hb2 (a := ⟨w.heap.size + 1, 2, none⟩) (v := .bool up) (by go_simp)
  have z0 := below_cell_of hb2 (a := ⟨w.heap.size + 1 + 1, 0, none⟩) (v := .int .i64 size) (by go_simp)
  have hz2 := hb2.size
  simp only [World.size_alloc] at hz2
  have hl0 : w.heap.size < w2.heap.size := by omega
  have hl1 : w.heap.size + 1 < w2.heap.size := by omega
  have hl2 : w.heap.size + 1 + 1 < w2.heap.size := by omega
  clear hb2 hps
  gi_wp2
  refine ⟨trivial, ?_⟩
  refine (callsIn_wide.2 (hops_any a len cap back up _)).mono ?_
  rintro e w3 ⟨rfl, rfl⟩
  gi_wp2
  obtain ⟨hm8, hl6, hall, hnd, hbk⟩ := Ro.check_one HC.out
  obtain ⟨_, hm8⟩ := (Ro.inside_iff _ _ _).1 hm8
  obtain ⟨hl1', hl6⟩ := (Ro.inside_iff _ _ _).1 hl6
  obtain ⟨bk0, bk1⟩ := (Ro.inside_iff _ _ _).1 hbk
  have hzl := HL.out.1
  rw [hzl] at hl1' hl6
  have HZ := Lib.hid hzl
  have HALL := Lib.hid hall
  have hab : ∀ ad, a = some ad → ad.block < w.heap.size := by
    intro ad e
    obtain ⟨ad', e', hcl⟩ := HL.out.2 0 (by omega)
    rw [e] at e'
    injection e' with e'
    subst e'
    have := World.block_lt_of_cell? _ _ hcl
    have e3 : (ad.add 0).block = ad.block := by unfold Addr.add; split <;> rfl
    rwa [e3] at this
  have HAB := Lib.hid hab
  clear hall hnd hbk hzl hab
  refine wpIn_rangeFunc_ownF (w := tripW w2 (w.heap.size + 1 + 1) a len cap back up) rfl (by omega) (gf := 30) (lb := #[.pointer (some ⟨w2.heap.size + 1 + 1 + 1, 0, none⟩)]) rfl trivial (enters_of Try.func30 (by kernel_rfl) rfl)
    (hops_stops (q := fun x => Ro.inside x 0 (ln - 1) = true) 3 (by omega) (w2.heap.size + 1 + 1 + 1) w.heap.size a len cap back up ls (by omega) HAB.out HALL.out (tripW w2 (w.heap.size + 1 + 1) a len cap back up) (by unfold tripW; go_simp) (by unfold tripW; go_simp) (by unfold tripW; go_simp) (HL.out.below ?bel)) KC.trans (fun W l o o' _ h hc _ => KC.put W l o o' h hc) (Below.refl _ _) (fun _ => rfl)
    (fun pre W => TrI w.heap.size w2.heap.size la ln lc size (ks.map LinkV.plain) back (linksOf pre) W ∧ Below w.heap.size w W) (fun _ _ _ => False)
    (OwnFrom.and ((TrI.own _ _ _ _ _ _ _ _).from _) (ownFrom_below (Nat.le_refl _) (by unfold tripW; simp; omega))) (fun _ _ _ _ _ hs _ _ => hs)
    ⟨?start, ?bel⟩
    (fun x => { tmps := #[.slice la ln lc, .agg #[.slice a len cap, .int .i64 back, .bool up], .int .i64 size, .pointer (some ⟨w.heap.size, 0, none⟩), .pointer (some ⟨w.heap.size + 1, 0, none⟩), .pointer (some ⟨w.heap.size + 1 + 1, 0, none⟩), .int .i64 0, .int .i64 0, .int .i64 0, .pointer (some ⟨w2.heap.size, 0, none⟩), .pointer (some ⟨w2.heap.size + 1, 0, none⟩), .pointer (some ⟨w2.heap.size + 1 + 1, 0, none⟩), undef, .int .i64 x.1.2,
      .int .i64 size, .bool true, .bool false, .slice la ln lc, .int .i64 ln, .agg #[.slice a len cap, .int .i64 back, .bool up], .slice (some ⟨w.heap.size + 1 + 1 + 1, 0, none⟩) 1 1, .int .i64 0, .int .i64 0, .bool false, undef, .pointer (some ⟨w.heap.size + 1, 1, none⟩), .int .i64 back,
      .func (.func 23) #[] #[.pointer (some ⟨w2.heap.size + 1, 0, none⟩), .pointer (some ⟨w2.heap.size, 0, none⟩), .pointer (some ⟨w.heap.size + 1 + 1, 0, none⟩)], .agg #[.slice a len cap, .int .i64 back, .bool up], .func (.func 30) #[] #[.pointer (some ⟨w2.heap.size + 1 + 1 + 1, 0, none⟩)], .int .i64 x.1.1, .int .i64 x.1.2,
      undef, undef, undef, undef, undef, undef, undef, undef, undef], defers := [] }) ?assign ?body ?done ?stop
  case bel => exact below_new (below_new (below_new (below_new hB2.out _) _) _) _
  case start =>
    have e : linksOf ([] : List (Hop fun x => Ro.inside x 0 (ln - 1) = true)) = [] := rfl
    rw [e]
    unfold tripW
    exact ⟨below_cell_of (below_new (below_new (below_new (below_new (Below.refl _ _) _) _) _) _) l0, below_cell_of (below_new (below_new (below_new (below_new (Below.refl _ _) _) _) _) _) z0, by go_simp; rfl, by go_simp, by go_simp; rfl, by go_simp, by go_simp⟩
  case assign =>
    intro l x W K hK
    gi_wp2
    exact hK
  case body =>
    rintro l pre ⟨⟨hop, link⟩, hq⟩ W ⟨hi, hB⟩ hlen
    obtain ⟨q0, q1⟩ := (Ro.inside_iff _ _ _).1 hq
    obtain ⟨j, rfl⟩ : ∃ j : Nat, link = j := ⟨link.toNat, by omega⟩
    have hj : j < ln := by omega
    obtain ⟨lb, lo, rfl, hrw, _⟩ := HK.out.2 j hj
    have hlb : lb < w.heap.size := by
      have := World.block_lt_of_cell? _ _ (hrw 0 _ rfl)
      exact this
    have hrg := rangeAt_below hrw hB
    clear hrw
    obtain ⟨K, hK⟩ : ∃ K, ks.getD j default = K := ⟨_, rfl⟩
    rw [hK] at hrg
    have HKK := Lib.hid hK
    obtain ⟨r, d, X⟩ := K
    have HRG := Lib.hid hrg
    obtain ⟨⟨f, T⟩, hst⟩ : ∃ s, tripSt (ks.map LinkV.plain) back size (linksOf pre) = s := ⟨_, rfl⟩
    have hbd := tripSt_bd (links := ks.map LinkV.plain) bk0 bk1 s0 s1 (linksOf pre)
    have ct := hi.time
    have ft := hi.ftime
    have cf := hi.fine
    have ff := hi.ffine
    have cl := hi.clinks
    have cs := hi.csize
    have cp := hi.pass
    rw [hst] at ct cf hbd
    simp only at ct cf hbd
    have HST := Lib.hid hst
    have HB := Lib.hid hB
    have hlk : (linksOf pre).length = pre.length := by simp [linksOf]
    rw [hlk] at hbd
    obtain ⟨hT0, hT1⟩ := hbd
    have hT : T ≤ 1000000000 := by omega
    clear hK hrg hi hB hst q0 q1 hlk hT1
    have hlo : ¬ LetsOut (Exit.inBlock 1 (ownPostK (KC w.heap.size (w2.heap.size + 1 + 1 + 1)) (fun (pre : List (Hop fun x => Ro.inside x 0 (ln - 1) = true)) W => TrI w.heap.size w2.heap.size (some ⟨lb, lo, none⟩) ln lc size (ks.map LinkV.plain) back (linksOf pre) W ∧ Below w.heap.size w W) (fun _ _ _ => False) (pre ++ [⟨(hop, (j : Int)), hq⟩]) W)) := by
      rintro ⟨_, _, h⟩
      exact h
    gi_wp2
    refine wpIn_region_round (S := (fun W' => W'.cell? ⟨w2.heap.size + 1 + 1, 0, none⟩ = some (.func (.func 23) #[] #[.pointer (some ⟨w2.heap.size + 1, 0, none⟩), .pointer (some ⟨w2.heap.size, 0, none⟩), .pointer (some ⟨w.heap.size + 1 + 1, 0, none⟩)]) ∧ W'.cell? ⟨w.heap.size, 0, none⟩ = some (.slice (some ⟨lb, lo, none⟩) ln lc) ∧ W'.rangeAt lb (lo + j * 27) (linkList r d X))) (by kernel_rfl) (by kernel_rfl) hlo ?_ (fun hHeld => ?_)
    · exact ⟨cp, cl, HRG.out⟩
    refine wpAnyH_take (i := 0) (v := ?_) rfl (by kernel_rfl) (by kernel_rfl) (by kernel_rfl) (fun _ _ _ h => h) (Or.inl ⟨by rfl, ?_⟩) hHeld ?_
    rotate_left
    · intro wS hSw; obtain ⟨hS0, hS1, hS2⟩ := hSw; go_simp; try with_reducible rfl
    try go_simp
    refine wpAnyH_take (i := 1) (v := ?_) rfl (by kernel_rfl) (by kernel_rfl) (by kernel_rfl) (fun _ _ _ h => h) (Or.inl ⟨by rfl, ?_⟩) hHeld ?_
    rotate_left
    · intro wS hSw; obtain ⟨hS0, hS1, hS2⟩ := hSw; go_simp; try with_reducible rfl
    try go_simp
    refine wpAnyH_take (i := 2) (v := ?_) rfl (by kernel_rfl) (by kernel_rfl) (by kernel_rfl) (fun _ _ _ h => h) (Or.inl ⟨by rfl, ?_⟩) hHeld ?_
    rotate_left
    · intro wS hSw; obtain ⟨hS0, hS1, hS2⟩ := hSw; go_simp; try with_reducible rfl
    try go_simp
    refine wpAnyH_take (i := 3) (v := ?_) rfl (by kernel_rfl) (by kernel_rfl) (by kernel_rfl) (fun _ _ _ h => h) (Or.inl ⟨by rfl, ?_⟩) hHeld ?_
    rotate_left
    · intro wS hSw; obtain ⟨hS0, hS1, hS2⟩ := hSw; go_simp; try with_reducible rfl
    try go_simp
    refine wpAnyH_take (i := 4) (v := linkVal r d X) rfl (by kernel_rfl) (by kernel_rfl) (by kernel_rfl) (fun _ _ _ h => h) (yieldsIf_load_mid (by rfl) 53 (.tmp 35) rfl lb (lo + j * 27) (by first | rfl | exact congrArg (fun x => Value.pointer (some x)) (Addr.add_mid _ _ _)) (linkList r d X) _ (fun _ h => h.2.2) Try.underlying53 rfl (by kernel_rfl)) hHeld ?_
    try go_simp
    refine wpAnyH_ready (rs := [5]) (by kernel_rfl) (by simp) ?_
    refine AllReadyH.cons rfl (fun K hK => ?_) AllReadyH.nil
    go_simp
    refine (pass_any r d X (w2.heap.size + 1) w2.heap.size (w.heap.size + 1 + 1) T size f W.drew s0 s1 hT0 hT cf ff ct ft cs (by omega) (by omega) (by omega)).mono ?_
    rintro e w' ⟨⟨v, rfl⟩, g1, g2, g3⟩
    refine hK.out _ _ ?_ (fun hHeld => ?_)
    · exact ⟨g3.rest _ _ (by dsimp only; omega) (by dsimp only; omega) cp, g3.rest _ _ (by dsimp only; omega) (by dsimp only; omega) cl, fun i v hv => g3.rest _ _ (by dsimp only; omega) (by dsimp only; omega) (HRG.out i v hv)⟩
    clear hK K
    try go_simp
    refine wpAnyH_done (by kernel_rfl) ?_ _
    have hgd : (ks.map LinkV.plain).getD ((j : Int)).toNat (0, 0) = (r, d) := by
      have hjl : j < ks.length := by rw [HK.out.1]; exact hj
      have e := HKK.out
      rw [List.getD_eq_getElem?_getD, List.getElem?_eq_getElem hjl] at e
      simp only [Option.getD_some] at e
      rw [Int.toNat_natCast, List.getD_eq_getElem?_getD, List.getElem?_map, List.getElem?_eq_getElem hjl, e]
      rfl
    have hst2 : tripSt (ks.map LinkV.plain) back size (linksOf (pre ++ [(⟨(hop, (j : Int)), hq⟩ : Hop fun x => Ro.inside x 0 (ln - 1) = true)])) = (f && Ro.fine (r, d), if (f && Ro.fine (r, d)) = true then T + Ro.takes size (r, d) else T) := by
      rw [linksOf_snoc, tripSt_snoc, HST.out]
      show (f && Ro.fine ((ks.map LinkV.plain).getD ((j : Int)).toNat (0, 0)), _) = _
      rw [hgd]
    refine ⟨(KeepsOthers.drew _).trans g3.keeps, fun a v ha hc => g3.rest a v (by rcases ha with h | h <;> omega) (by rcases ha with h | h <;> omega) hc, ⟨g3.rest _ _ (by dsimp only; omega) (by dsimp only; omega) cl, g3.rest _ _ (by dsimp only; omega) (by dsimp only; omega) cs, ?_, (g3.frz _ _ ct).trans ft, ?_, (g3.frz _ _ cf).trans ff, g3.rest _ _ (by dsimp only; omega) (by dsimp only; omega) cp⟩, g3.below _ _ (Nat.le_refl _) (by omega) (by omega) (below_drawn HB.out)⟩
    · rw [hst2]; exact g2
    · rw [hst2]; exact g1
  case done =>
    rintro D ys W hD hys ⟨hi, hB⟩ hK
    have hlk : linksOf ys = ls := by rw [linksOf_hops hys (by have := HZ.out; omega), List.take_of_length_le (by have := HZ.out; omega)]
    have ct := hi.time
    have cf := hi.fine
    rw [hlk] at ct cf
    obtain ⟨e1, e2⟩ := tripSt_eq (ks.map LinkV.plain) back size ls
    have HT := Lib.hid (Ro.trip_ok (links := ks.map LinkV.plain) (ls := ls) (back := back) HI.out (by rw [List.length_map, HK.out.1]; exact HC.out))
    have HB := Lib.hid hB
    have HD := Lib.hid hD
    have E2 := Lib.hid e2
    rw [e1] at cf
    clear hi hB hD hlk hys e2
    have bel : Below w.heap.size w (W.putObj D (.deferred none)) := HB.out.trans (belowK_b (w := w) (Nat.le_refl _) W D _ _ (by have := HD.out; unfold tripW at this; simp at this; omega) hK rfl rfl)
    have BEL := Lib.hid bel
    clear bel
    by_cases ha : ls.all (fun x => Ro.fine ((ks.map LinkV.plain).getD x.toNat (0, 0))) = true
    · have hv := E2.out (e1.trans ha)
      rw [ha] at cf
      rw [hv] at ct
      have ht2 := HT.out.trans (if_pos ha)
      obtain ⟨sm, hsm⟩ : ∃ sm, back + (ls.map fun x => Ro.takes size ((ks.map LinkV.plain).getD x.toNat (0, 0))).sum = sm := ⟨_, rfl⟩
      rw [hsm] at ht2 ct
      have HT2 := Lib.hid ht2
      clear ht2 hsm
      clear ha hv e1
      gi_wp2
      refine ⟨by simp, .inl ⟨_, _, rfl, run_takeDeferred hK, ?_⟩⟩
      exact ⟨_, results_tmp2 rfl _ _ _, by rw [HT2.out]; rfl, BEL.out⟩
    · have HT2 := Lib.hid (HT.out.trans (if_neg ha))
      rw [Bool.not_eq_true] at ha
      rw [ha] at cf
      clear ha e1
      gi_wp2
      refine ⟨by simp, .inl ⟨_, _, rfl, run_takeDeferred hK, ?_⟩⟩
      exact ⟨_, results_tmp2 rfl _ _ _, by rw [HT2.out]; rfl, BEL.out⟩
  case stop =>
    rintro D c pre W hD _ h hK
    exact h.elim

/-- A trip, whatever the links, the path and the size. -/
theorem trip_any (la : Option Addr) (ln lc : Nat) (ks : List LinkV) (a : Option Addr) (len cap : Nat) (ls : List Int) (back : Int) (up : Bool) (size : Int) (w : World) (hk : RdK w la ln ks) (hl : RdI w .i64 a len ls) (hml : (len : Int) ≤ 9223372036854775806) :
    Calls Try.prog 14 #[.slice la ln lc, .agg #[.slice a len cap, .int .i64 back, .bool up], .int .i64 size] w fun e w' => e = .returned (.tuple #[.int .i64 (Ro.trip (ks.map LinkV.plain) ls back size).1, .int .i64 (Ro.trip (ks.map LinkV.plain) ls back size).2]) ∧ Below w.heap.size w w' := by
  cases hi : Ro.inside size 1 10000 with
  | false =>
    have HT : RowKit.Hid (Ro.trip (ks.map LinkV.plain) ls back size = (0, 1)) := Lib.hid (by unfold Ro.trip; rw [if_neg (by rw [hi]; decide)])
    have HI := Lib.hid hi
    clear hi hk hl
    go_enter Try.func14, Try.ntmps14
    go_wp2_with fail
    refine (inside_any size 1 10000 _).mono ?_
    rw [HI.out]
    rintro e w1 ⟨rfl, rfl⟩
    go_wp2
    refine bodyPost_ret (results_tmp2 rfl _ _ _) rfl ⟨by rw [HT.out]; rfl, below_new (below_new (below_new (Below.refl _ _) _) _) _⟩
  | true =>
    by_cases hc : Ro.check ln [(ls, back)] = 0
    · exact callsIn_wide.1 (trip_in la ln lc ks a len cap ls back up size w hk hl hml hi hc)
    · have HT : RowKit.Hid (Ro.trip (ks.map LinkV.plain) ls back size = (0, Ro.check ln [(ls, back)])) := Lib.hid (by
        unfold Ro.trip
        rw [if_pos hi, List.length_map, hk.1, if_neg hc])
      have HI := Lib.hid hi
      have HL := Lib.hid hl
      obtain ⟨c, hcc⟩ : ∃ c, Ro.check ln [(ls, back)] = c := ⟨_, rfl⟩
      have HC := Lib.hid hcc
      rw [hcc] at hc
      clear hi hk hl hcc
      go_enter Try.func14, Try.ntmps14
      go_wp2_with fail
      refine (inside_any size 1 10000 _).mono ?_
      rw [HI.out]
      rintro e w1 ⟨rfl, rfl⟩
      go_wp2_with fail
      have hps : RdP ((((w.alloc (.cells #[.slice la ln lc] 22)).alloc (.cells #[.slice a len cap, .int .i64 back, .bool up] 26)).alloc (.cells #[.int .i64 size] 3)).alloc (.cells #[.slice a len cap, .int .i64 back, .bool up] 26)) (some ⟨w.heap.size + 1 + 1 + 1, 0, none⟩) 1 [⟨a, len, cap, ls, back, up⟩] :=
        ⟨rfl, fun i hi => by
          obtain rfl : i = 0 := by omega
          exact ⟨_, rfl, by go_simp, by go_simp, by go_simp, (HL.out.below (below_new (below_new (below_new (below_new (Below.refl _ _) _) _) _) _)), by show (len : Int) ≤ 9223372036854775807; omega⟩⟩
      refine (check_any ln _ 1 1 [⟨a, len, cap, ls, back, up⟩] _ hps (by omega)).mono ?_
      rw [show ([⟨a, len, cap, ls, back, up⟩] : List PathV).map PathV.plain = [(ls, back)] from rfl, HC.out]
      rintro e w2 ⟨rfl, hb2⟩
      have HB2 := Lib.hid (below_on (below_new (below_new (below_new (below_new (Below.refl _ _) _) _) _) _) hb2)
      clear hps hb2
      go_wp2
      refine bodyPost_ret (results_tmp2 rfl _ _ _) rfl ⟨by rw [HT.out, HC.out]; rfl, HB2.out⟩
end Go.Proofs.Ytjjplcjinhcpiaa
