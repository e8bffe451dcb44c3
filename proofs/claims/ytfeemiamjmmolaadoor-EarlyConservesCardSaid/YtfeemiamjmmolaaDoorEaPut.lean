/- Put of package early, at a valid queue and packet. -/
import Derived.Test.YtfeemiamjmmolaaDoorEaUpd
import Derived.Test.YtfeemiamjmmolaaDoorEaRow
namespace Go.Proofs.YtfeemiamjmmolaaDoor
open Go.RowKit

abbrev zeroQ : List Value := [.int .i64 0, .int .i64 0, .int .i64 0, .int .i64 0, .int .i64 0, .slice none 0 0, .int .i64 0, .int .i64 0, .int .i64 0, .int .i64 0, .int .i64 0, .int .i64 0, .int .i64 0, .int .i64 0, .int .u64 0]
theorem avg_in {A B C room v0 v7 : Int} {xs : List Ea.Item} {n : Nat} (h : QOk A B C room v0 v7 xs) (hn : n ≤ 600) : -1000000 ≤ Ea.avg v0 n (2 ^ C.toNat) ∧ Ea.avg v0 n (2 ^ C.toNat) ≤ 1000000 := by
  have := Ea.avg_bd (v := v0) (len := n) (pow_one_le C.toNat)
  have := h.w0
  have := h.w1
  generalize Ea.avg v0 n (2 ^ C.toNat) = z at *
  omega
def OutOk (V : World) (out : Value) : Option Ea.Pkt → Prop
  | none => out = .slice none 0 0
  | some p => ∃ b, out = .slice (some ⟨b, 0, none⟩) 1 1 ∧ V.rangeAt b 0 (pktList p)
/-- What Put says. -/
def PutSays (w : World) (A B C room v1 now : Int) (s1 : Nat) (n : Nat) (xs : List Ea.Item) (o : Option Ea.Pkt) (e : Ending) (V : World) : Prop :=
  ∃ g1 a c out, e = .returned (.tuple #[.agg (qList A B C room (some ⟨g1, 0, none⟩) 1 1 v1 now s1).toArray, out, .int .i64 0]) ∧ Below w.heap.size w V ∧ V.cell? ⟨g1, 0, none⟩ = some (.slice a n c) ∧ RdT V a n xs ∧ OutOk V out o
theorem qList_one (A B C room : Int) (la : Option Addr) (ln lc : Nat) (v0 v7 seed : Int) : ∀ v, v ∈ qList A B C room la ln lc v0 v7 seed → v.oneCell' = true := by
  intro u hu
  simp only [qList, List.mem_cons, List.not_mem_nil, or_false] at hu
  rcases hu with rfl | rfl | rfl | rfl | rfl | rfl | rfl | rfl | rfl | rfl | rfl | rfl | rfl | rfl | rfl <;> rfl
theorem drop_end {w w4 wa w5 V : World} {rb g1 base : Nat} {a : Option Addr} {n c : Nat} {xs : List Ea.Item} (hB4 : Below w.heap.size w w4) (hA : Below w4.heap.size w4 wa) (hg5 : wa.grownBy w5 (some rb)) (hV : Below w5.heap.size w5 V) (hrb : w.heap.size ≤ rb) (hr4 : Blk w4 rb zeroQ) (hl4 : Blk w4 g1 [.slice a n c]) (how4 : OwnL w4 base a n c xs) (hne : g1 ≠ rb) :
    Below w.heap.size w V ∧ V.cell? ⟨g1, 0, none⟩ = some (.slice a n c) ∧ RdT V a n xs :=
  ⟨below_on (below_grown (below_on hB4 hA) hg5 (fun k hk => by injection hk with hk; omega)) hV, (((hl4.below hA).kept hg5 (fun e => hne (by injection e))).below hV).cell 0 rfl, (((how4.below hA).kept' hg5 (j := 5) (by omega) ((hr4.below hA).cell 5 rfl)).below hV).rdT⟩
set_option maxRecDepth 100000 in
set_option maxHeartbeats 4000000 in
theorem put_full (A B C room : Int) (ad : Addr) (lc : Nat) (v0 v7 : Int) (s : Nat) (a : Option Addr) (n c : Nat) (xs : List Ea.Item) (w : World) (hc : w.cell? ad = some (.slice a n c)) (hr : RdQ w a n xs) (hn : (n : Int) ≤ 9223372036854775807) (hq : QOk A B C room v0 v7 xs) (ht : Table w) (p : Ea.Pkt) (hp : p.ok) (now : Int) (h0 : v7 ≤ now) (h1 : now ≤ 10000000) (s1 : Nat) (hv : Ea.verdict A B n room (Ea.avg v0 n (2 ^ C.toNat)) s = (2, s1)) :
    Calls Tryd.prog 13 #[.agg #[.int .i64 2, .int .i64 A, .int .i64 B, .int .i64 C, .int .i64 room, .slice (some ad) 1 lc, .int .i64 v0, .int .i64 0, .int .i64 0, .int .i64 0, .int .i64 0, .int .i64 0, .int .i64 0, .int .i64 v7, .int .u64 (s : Int)], pktVal p, .int .i64 now] w (PutSays w A B C room (Ea.avg v0 n (2 ^ C.toNat)) now s1 n xs (some p)) := by
  have HV := Lib.hid hv
  clear hv
  have hlt := World.block_lt_of_cell? _ _ hc
  have HR := Lib.hid hr
  have HQ := Lib.hid hq
  have HT := Lib.hid ht
  have HP := Lib.hid hp
  have hn6 : n ≤ 600 := by have := hq.len; have := hq.r1; have := hr.1; omega
  have hnow : 0 ≤ now := by have := hq.t0; omega
  clear hr hq ht hp
  go_enter Tryd.func13, Tryd.ntmps13
  go_wp2_with fail
  refine (isPacket_yes p _ HP.out).mono ?_
  rintro e w1 ⟨rfl, hb1⟩
  have hB1 : Below w.heap.size w w1 := below_on (below_new (below_new (below_new (Below.refl _ _) _) _) _) hb1
  have hq1 : Blk w1 w.heap.size [.int .i64 2, .int .i64 A, .int .i64 B, .int .i64 C, .int .i64 room, .slice (some ad) 1 lc, .int .i64 v0, .int .i64 0, .int .i64 0, .int .i64 0, .int .i64 0, .int .i64 0, .int .i64 0, .int .i64 v7, .int .u64 (s : Int)] := ((Blk.new w #[.int .i64 2, .int .i64 A, .int .i64 B, .int .i64 C, .int .i64 room, .slice (some ad) 1 lc, .int .i64 v0, .int .i64 0, .int .i64 0, .int .i64 0, .int .i64 0, .int .i64 0, .int .i64 0, .int .i64 v7, .int .u64 (s : Int)] 28).below (below_new (below_new (Below.refl _ _) _) _)).below hb1
  have hp1 : Blk w1 (w.heap.size + 1) (pktList p) := ((blk_new_at (w.alloc (.cells #[.int .i64 2, .int .i64 A, .int .i64 B, .int .i64 C, .int .i64 room, .slice (some ad) 1 lc, .int .i64 v0, .int .i64 0, .int .i64 0, .int .i64 0, .int .i64 0, .int .i64 0, .int .i64 0, .int .i64 v7, .int .u64 (s : Int)] 28)) (pktList p).toArray 35 (by simp)).below (below_new (Below.refl _ _) _)).below hb1
  have hr1 : Blk w1 (w.heap.size + 1 + 1) zeroQ := (blk_new_at ((w.alloc (.cells #[.int .i64 2, .int .i64 A, .int .i64 B, .int .i64 C, .int .i64 room, .slice (some ad) 1 lc, .int .i64 v0, .int .i64 0, .int .i64 0, .int .i64 0, .int .i64 0, .int .i64 0, .int .i64 0, .int .i64 v7, .int .u64 (s : Int)] 28)).alloc (.cells (pktList p).toArray 35)) zeroQ.toArray 28 (by simp)).below hb1
  have hz1 := hr1.lt
  have HB1 := Lib.hid hB1
  have HQ1 := Lib.hid hq1
  have HP1 := Lib.hid hp1
  have HR1 := Lib.hid hr1
  clear hB1 hq1 hp1 hr1 hb1
  go_wp2_with (refine wpList_load_mid rfl 28 _ rfl w.heap.size 0 rfl [.int .i64 2, .int .i64 A, .int .i64 B, .int .i64 C, .int .i64 room, .slice (some ad) 1 lc, .int .i64 v0, .int .i64 0, .int .i64 0, .int .i64 0, .int .i64 0, .int .i64 0, .int .i64 0, .int .i64 v7, .int .u64 (s : Int)] _ HQ1.out.range Tryd.underlying28 rfl (by kernel_rfl) ?_)
  refine (open_yes A B C room ad lc v0 v7 s a n c xs w1 (below_cell_of HB1.out hc) (HR.out.below HB1.out) hn HQ.out now h0 h1).mono ?_
  rintro e w2 ⟨g, g1, a2, c2, rfl, hO⟩
  have HP2 := Lib.hid (HP1.out.below hO.below)
  have HR2 := Lib.hid (HR1.out.below hO.below)
  have hg2 : w.heap.size + 1 + 1 < g := Nat.lt_of_lt_of_le hz1 hO.hg
  have hg12 : w.heap.size + 1 + 1 < g1 := Nat.lt_of_lt_of_le hz1 hO.hg1
  have HO := Lib.hid hO
  clear hO HQ1 HP1 HR1
  go_wp2_with fail
  refine (update_any g g1 A B C room v0 now s a2 n c2 w2 HO.out.q HO.out.l hn6 HQ.out.c0 HQ.out.c1 HQ.out.w0 HQ.out.w1).mono ?_
  rintro e w3 ⟨rfl, hgr3, hq3⟩
  have HP3 := Lib.hid (HP2.out.kept hgr3 (by simp; omega))
  have HR3 := Lib.hid (HR2.out.kept hgr3 (by simp; omega))
  have HL3 := Lib.hid (HO.out.l.kept hgr3 (by simp; exact fun e => HO.out.ne e.symm))
  have HOW3 := Lib.hid (HO.out.own.kept' hgr3 (j := 5) (by omega) (HO.out.q.cell 5 rfl))
  have HB3 := Lib.hid (below_grown (below_on HB1.out HO.out.below) hgr3 (fun k hk => by injection hk with hk; omega))
  have HQ3 := Lib.hid hq3
  have hne := HO.out.ne
  have hz2 : w1.heap.size ≤ w3.heap.size := Nat.le_trans HO.out.below.size hgr3.size
  clear hgr3 hq3 HP2 HR2 HO HB1
  go_wp2_with fail
  refine (decide_any g g1 A B C room (Ea.avg v0 n (2 ^ C.toNat)) now s a2 n c2 w3 (table_below HT.out HB3.out) HQ3.out HL3.out HQ.out.a0 HQ.out.ab HQ.out.b1 (avg_in HQ.out hn6).1 (avg_in HQ.out hn6).2).mono ?_
  unfold DecideSays
  rw [HV.out]
  rintro e w4 ⟨rfl, hgr4, hq4⟩
  have HP4 := Lib.hid (HP3.out.kept hgr4 (by simp; omega))
  have HR4 := Lib.hid (HR3.out.kept hgr4 (by simp; omega))
  have HL4 := Lib.hid (HL3.out.kept hgr4 (by simp; exact fun e => hne e.symm))
  have HOW4 := Lib.hid (HOW3.out.kept' hgr4 (j := 5) (by omega) (HQ3.out.cell 5 rfl))
  have HB4 := Lib.hid (below_grown HB3.out hgr4 (fun k hk => by injection hk with hk; omega))
  have HQ4 := Lib.hid hq4
  have hz4 : w1.heap.size ≤ w4.heap.size := Nat.le_trans hz2 hgr4.size
  clear hgr4 hq4 HP3 HR3 HL3 HOW3 HB3 HQ3 hz2
  go_wp2_with fail
  refine wp_region_held_drew (S := (fun V => V.rangeAt g 0 (qList A B C room (some ⟨g1, 0, none⟩) 1 1 (Ea.avg v0 n (2 ^ C.toNat)) now s1) ∧ V.rangeAt (w.heap.size + 1) 0 (pktList p))) (by kernel_rfl) ?_ (fun hHeld => ?_)
  · exact ⟨HQ4.out.range, HP4.out.range⟩
  refine wpAnyH_take (i := 4) (v := (.agg (pktList p).toArray)) rfl (by kernel_rfl) (by kernel_rfl) (by kernel_rfl) (fun _ _ _ h => h) (yieldsIf_load_mid (by rfl) 35 _ rfl (w.heap.size + 1) 0 rfl (pktList p) _ (fun _ h => h.2) Tryd.underlying35 rfl (by kernel_rfl)) hHeld ?_
  try go_simp
  refine wpAnyH_take (i := 0) (v := ?_) rfl (by kernel_rfl) (by kernel_rfl) (by kernel_rfl) (fun _ _ _ h => h) (Or.inl ⟨by rfl, ?_⟩) hHeld ?_
  rotate_left
  · intro wS hSw; obtain ⟨hS0, hS1⟩ := hSw; go_simp; try with_reducible rfl
  try go_simp
  refine wpAnyH_take (i := 1) (v := ?_) rfl (by kernel_rfl) (by kernel_rfl) (by kernel_rfl) (fun _ _ _ h => h) (Or.inl ⟨by rfl, ?_⟩) hHeld ?_
  rotate_left
  · intro wS hSw; obtain ⟨hS0, hS1⟩ := hSw; go_simp; try with_reducible rfl
  try go_simp
  refine wpAnyH_take (i := 2) (v := ?_) rfl (by kernel_rfl) (by kernel_rfl) (by kernel_rfl) (fun _ _ _ h => h) (Or.inl ⟨by rfl, ?_⟩) hHeld ?_
  rotate_left
  · intro wS hSw; obtain ⟨hS0, hS1⟩ := hSw; go_simp; try with_reducible rfl
  try go_simp
  refine wpAnyH_take (i := 3) (v := (.agg (qList A B C room (some ⟨g1, 0, none⟩) 1 1 (Ea.avg v0 n (2 ^ C.toNat)) now s1).toArray)) rfl (by kernel_rfl) (by kernel_rfl) (by kernel_rfl) (fun _ _ _ h => h) (yieldsIf_load_mid (by rfl) 28 _ rfl g 0 rfl (qList A B C room (some ⟨g1, 0, none⟩) 1 1 (Ea.avg v0 n (2 ^ C.toNat)) now s1) _ (fun _ h => h.1) Tryd.underlying28 rfl (by kernel_rfl)) hHeld ?_
  try go_simp
  refine wpAnyH_ready (rs := [5, 6]) (by kernel_rfl) (by simp) ?_
  refine AllReadyH.cons rfl (fun K hK => ?_) (AllReadyH.cons rfl (fun K hK => ?_) AllReadyH.nil)
  · go_simp
    refine hK.out _ _ ?_ (fun hHeld => ?_)
    · exact ⟨(HQ4.out.below (below_new (below_drawn (Below.refl _ _)) _)).range, (HP4.out.below (below_new (below_drawn (Below.refl _ _)) _)).range⟩
    clear hK K
    try go_simp
    refine wpAnyH_ready (rs := [6]) (by kernel_rfl) (by simp) ?_
    refine AllReadyH.cons rfl (fun K hK => ?_) AllReadyH.nil
    refine ready_store_blk (by rfl) _ 28 _ _ rfl (w.heap.size + 1 + 1) zeroQ (qList A B C room (some ⟨g1, 0, none⟩) 1 1 (Ea.avg v0 n (2 ^ C.toNat)) now s1) rfl rfl (HR4.out.below (below_new (below_drawn (Below.refl _ _)) _)) (by kernel_rfl) rfl (qList_one _ _ _ _ _ _ _ _ _ _) ?_
    intro w5 hq5 hg5
    refine hK.out _ _ ?_ (fun hHeld => ?_)
    · exact ⟨rangeAt_kept hHeld.1 hg5 (by simp; omega), rangeAt_kept hHeld.2 hg5 (by simp)⟩
    clear hK K
    try go_simp
    refine wpAnyH_take (i := 7) (v := ?_) rfl (by kernel_rfl) (by kernel_rfl) (by kernel_rfl) (fun _ _ _ h => h) (Or.inl ⟨by rfl, ?_⟩) hHeld ?_
    rotate_left
    · intro wS hSw; obtain ⟨hS0, hS1⟩ := hSw; go_simp; try with_reducible rfl
    try go_simp
    refine wpAnyH_take (i := 8) (v := ?_) rfl (by kernel_rfl) (by kernel_rfl) (by kernel_rfl) (fun _ _ _ h => h) (Or.inl ⟨by rfl, ?_⟩) hHeld ?_
    rotate_left
    · intro wS hSw; obtain ⟨hS0, hS1⟩ := hSw; go_simp; try with_reducible rfl
    try go_simp
    refine wpAnyH_done (by kernel_rfl) ?_ _
    go_wp2
    refine bodyPost_ret (results_c11 Tryd.results13 rfl (run_loadVar_mid _ (w.heap.size + 1 + 1) 0 28 (qList A B C room (some ⟨g1, 0, none⟩) 1 1 (Ea.avg v0 n (2 ^ C.toNat)) now s1) _ (by first | exact hq5.range | exact (hq5.below (below_new (Below.refl _ _) _)).range) Tryd.underlying28 rfl (by kernel_rfl))) rfl ?_
    obtain ⟨e1, e2, e3⟩ := drop_end HB4.out (below_drawn (below_new (Below.refl _ _) _)) hg5 (Below.refl _ _) (by omega) HR4.out HL4.out HOW4.out (by omega)
    exact ⟨g1, a2, c2, _, rfl, e1, e2, e3, _, rfl, ((show Blk (w4.alloc _).drew w4.heap.size (pktList p) from Blk.new w4 (pktList p).toArray 35).kept hg5 (fun e => by injection e with e; have := HR4.out.lt; omega)).range⟩
  · refine ready_store_blk (by rfl) _ 28 _ _ rfl (w.heap.size + 1 + 1) zeroQ (qList A B C room (some ⟨g1, 0, none⟩) 1 1 (Ea.avg v0 n (2 ^ C.toNat)) now s1) rfl rfl (show Blk w4.drew _ _ from HR4.out) (by kernel_rfl) rfl (qList_one _ _ _ _ _ _ _ _ _ _) ?_
    intro w5 hq5 hg5
    refine hK.out _ _ ?_ (fun hHeld => ?_)
    · exact ⟨rangeAt_kept hHeld.1 hg5 (by simp; omega), rangeAt_kept hHeld.2 hg5 (by simp)⟩
    clear hK K
    try go_simp
    refine wpAnyH_ready (rs := [5]) (by kernel_rfl) (by simp) ?_
    refine AllReadyH.cons rfl (fun K hK => ?_) AllReadyH.nil
    go_simp
    refine hK.out _ _ ?_ (fun hHeld => ?_)
    · exact ⟨rangeAt_below hHeld.1 (below_new (Below.refl _ _) _), rangeAt_below hHeld.2 (below_new (Below.refl _ _) _)⟩
    clear hK K
    try go_simp
    refine wpAnyH_take (i := 7) (v := ?_) rfl (by kernel_rfl) (by kernel_rfl) (by kernel_rfl) (fun _ _ _ h => h) (Or.inl ⟨by rfl, ?_⟩) hHeld ?_
    rotate_left
    · intro wS hSw; obtain ⟨hS0, hS1⟩ := hSw; go_simp; try with_reducible rfl
    try go_simp
    refine wpAnyH_take (i := 8) (v := ?_) rfl (by kernel_rfl) (by kernel_rfl) (by kernel_rfl) (fun _ _ _ h => h) (Or.inl ⟨by rfl, ?_⟩) hHeld ?_
    rotate_left
    · intro wS hSw; obtain ⟨hS0, hS1⟩ := hSw; go_simp; try with_reducible rfl
    try go_simp
    refine wpAnyH_done (by kernel_rfl) ?_ _
    go_wp2
    refine bodyPost_ret (results_c11 Tryd.results13 rfl (run_loadVar_mid _ (w.heap.size + 1 + 1) 0 28 (qList A B C room (some ⟨g1, 0, none⟩) 1 1 (Ea.avg v0 n (2 ^ C.toNat)) now s1) _ (by first | exact hq5.range | exact (hq5.below (below_new (Below.refl _ _) _)).range) Tryd.underlying28 rfl (by kernel_rfl))) rfl ?_
    obtain ⟨e1, e2, e3⟩ := drop_end HB4.out (below_drawn (Below.refl _ _)) hg5 (below_new (Below.refl _ _) _) (by omega) HR4.out HL4.out HOW4.out (by omega)
    exact ⟨g1, a2, c2, _, rfl, e1, e2, e3, _, rfl, (Blk.new w5 (pktList p).toArray 35).range⟩
end Go.Proofs.YtfeemiamjmmolaaDoor
