/- The examples at the head of the statements on package early: they are as the document says. -/
import Derived.Test.YtfeemiamjmmolaaDoorEaFateM
import Derived.Test.YtfeemiamjmmolaaDoorEaQueue
import Derived.Test.YtfeemiamjmmolaaDoorEaLate
namespace Go.Proofs.YtfeemiamjmmolaaDoor
open Go.RowKit

theorem plain_ok : Ea.Pkt.ok (⟨0, 0, 9, 0, 100, 0, false, false⟩ : Ea.Pkt) := ⟨by decide, by decide, by decide, by decide, by decide, by decide, by decide, by decide, by decide, by decide, by decide, by decide⟩
theorem able_ok : Ea.Pkt.ok (⟨0, 0, 9, 0, 100, 0, true, false⟩ : Ea.Pkt) := ⟨by decide, by decide, by decide, by decide, by decide, by decide, by decide, by decide, by decide, by decide, by decide, by decide⟩
theorem exOk (room : Int) (k : Nat) (h : (k : Int) ≤ room) (h1 : 1 ≤ room ∧ room ≤ 10) : QOk 2 4 0 room 0 0 (exList k) :=
  ⟨by omega, by omega, by omega, by omega, by omega, by omega, by omega, by omega, by omega, by omega, by omega, by rw [exList_length]; exact h, fun i hi => by
    rw [exList_length] at hi
    have e : ∀ j, j < k → (exList k).getD j default = exItem j := fun j hj => by
      unfold exList
      rw [List.getD_eq_getElem?_getD, List.getElem?_map, List.getElem?_range hj]
      rfl
    have hk : k ≤ 10 := by omega
    refine ⟨?_, ?_, ?_, ?_, fun h0 => ?_⟩
    · rw [e i hi]
      exact ⟨by simp [exItem], by simp [exItem], by simp [exItem], by simp [exItem], by simp [exItem], (by show (i : Int) ≤ 1000000000; omega), by simp [exItem], by simp [exItem], by simp [exItem], by simp [exItem], by simp [exItem], by simp [exItem]⟩
    · rw [e i hi]; simp [exItem]
    · rw [e i hi]; simp [exItem]
    · rw [e i hi]; simp [exItem]
    · rw [e i hi, e (i - 1) (by omega)]; simp [exItem]⟩
theorem exOk1 (v0 v7 : Int) (h : v0 = 0 ∧ v7 = 5) : QOk 2 4 0 10 v0 v7 [exItem 1] := by
  obtain ⟨rfl, rfl⟩ := h
  exact (exOk 10 2 (by omega) (by omega)).take (by omega) (by omega)
theorem take_at (A B C room : Int) (ad : Addr) (lc : Nat) (v0 v7 : Int) (seed : Int) (xs : List Ea.Item) (w : World) (hl : HoldsL w ad xs) (hq : QOk A B C room v0 v7 xs) (now : Int) (h0 : v7 ≤ now) (h1 : now ≤ 10000000) (p : Ea.Pkt) (is : Bool) (rest : List Ea.Item) (e1 : (xs.getD 0 default).p = p) (e2 : decide (0 < xs.length) = is) (e3 : xs.drop 1 = rest) :
    Calls Tryd.prog 11 #[.agg #[.int .i64 2, .int .i64 A, .int .i64 B, .int .i64 C, .int .i64 room, .slice (some ad) 1 lc, .int .i64 v0, .int .i64 0, .int .i64 0, .int .i64 0, .int .i64 0, .int .i64 0, .int .i64 0, .int .i64 v7, .int .u64 seed], .int .i64 now] w fun e V => ∃ ad', e = .returned (.tuple #[.agg #[.int .i64 2, .int .i64 A, .int .i64 B, .int .i64 C, .int .i64 room, .slice (some ad') 1 1, .int .i64 v0, .int .i64 0, .int .i64 0, .int .i64 0, .int .i64 0, .int .i64 0, .int .i64 0, .int .i64 now, .int .u64 seed], pktVal p, .bool is, .slice none 0 0, .int .i64 0]) ∧ Below w.heap.size w V ∧ HoldsL V ad' rest := by
  subst e1 e2 e3
  exact take_any A B C room ad lc v0 v7 seed xs w hl hq now h0 h1
theorem queue_at (room : Int) (many : Nat) (K : Int) (w : World) (hK : K = (many : Int)) (hm : many ≤ 10) : Calls Tryd.prog 16 #[.int .i64 room, .int .i64 K] w (QueueGives w room many) := hK ▸ queue_any room many w hm
theorem fate_at (A B C room : Int) (ad : Addr) (lc : Nat) (v0 v7 : Int) (s : Nat) (xs : List Ea.Item) (w : World) (hl : HoldsL w ad xs) (hq : QOk A B C room v0 v7 xs) (ht : Table w) (p : Ea.Pkt) (hp : p.ok) (now : Int) (h0 : v7 ≤ now) (h1 : now ≤ 10000000) (what : Int) (s1 : Nat) (hv : Ea.verdict A B xs.length room (Ea.avg v0 xs.length (2 ^ C.toNat)) s = (what, s1)) (res : Int) (hres : Ea.fated what p.able p.marked = res) :
    Calls Tryd.prog 12 #[.agg #[.int .i64 2, .int .i64 A, .int .i64 B, .int .i64 C, .int .i64 room, .slice (some ad) 1 lc, .int .i64 v0, .int .i64 0, .int .i64 0, .int .i64 0, .int .i64 0, .int .i64 0, .int .i64 0, .int .i64 v7, .int .u64 (s : Int)], pktVal p, .int .i64 now] w fun e V => e = .returned (.int .i64 res) ∧ Below w.heap.size w V := hres ▸ fate_any A B C room ad lc v0 v7 s xs w hl hq ht p hp now h0 h1 what s1 hv
set_option maxRecDepth 100000 in
set_option maxHeartbeats 4000000 in
theorem head_ok (w : World) (ht : Table w) : Calls Tryd.prog 8 #[] w fun e V => e = .returned (.bool true) ∧ Below w.heap.size w V := by
  have HT := Lib.hid ht
  clear ht
  go_enter Tryd.func8, Tryd.ntmps8
  go_wp2
  refine wp_region_held_drew (S := (fun V => V.rangeAt w.heap.size 0 (pktList (⟨0, 0, 9, 0, 100, 0, false, false⟩ : Ea.Pkt)) ∧ V.rangeAt (w.heap.size + 1) 0 (pktList (⟨0, 0, 9, 0, 100, 0, true, false⟩ : Ea.Pkt)) ∧ Below w.heap.size w V)) (by kernel_rfl) ?_ (fun hHeld => ?_)
  · exact ⟨(Blk.new w (pktList (⟨0, 0, 9, 0, 100, 0, false, false⟩ : Ea.Pkt)).toArray _).range |> fun h => rangeAt_below h (below_drawn (below_new (Below.refl _ _) _)), (blk_new_at (w.alloc _) (pktList (⟨0, 0, 9, 0, 100, 0, true, false⟩ : Ea.Pkt)).toArray _ (by simp)).range, below_drawn (below_new (below_new (Below.refl _ _) _) _)⟩
  refine wpAnyH_take (i := 1) (v := (.agg (pktList (⟨0, 0, 9, 0, 100, 0, false, false⟩ : Ea.Pkt)).toArray)) rfl (by kernel_rfl) (by kernel_rfl) (by kernel_rfl) (fun _ _ _ h => h) (yieldsIf_load_mid (by rfl) 35 _ rfl w.heap.size 0 rfl (pktList (⟨0, 0, 9, 0, 100, 0, false, false⟩ : Ea.Pkt)) _ (fun _ h => h.1) Tryd.underlying35 rfl (by kernel_rfl)) hHeld ?_
  try go_simp
  refine wpAnyH_ready (rs := [0]) (by kernel_rfl) (by simp) ?_
  refine AllReadyH.cons rfl (fun K hK => ?_) AllReadyH.nil
  go_simp
  refine (queue_at 10 0 0 _ rfl (by omega)).mono ?_
  rintro e q0 ⟨ad0, rfl, hb, hl0⟩
  refine hK.out _ _ ?_ ?_
  · exact ⟨rangeAt_below hHeld.1 hb, rangeAt_below hHeld.2.1 hb, below_on hHeld.2.2 hb⟩
  clear hK K hHeld hb
  intro hHeld
  try go_simp
  refine wpAnyH_ready (rs := [2]) (by kernel_rfl) (by simp) ?_
  refine AllReadyH.cons rfl (fun K hK => ?_) AllReadyH.nil
  go_simp
  refine (fate_at 2 4 0 10 ad0 1 0 0 0 (exList 0) _ hl0 (exOk 10 0 (by omega) (by omega)) (table_below HT.out hHeld.2.2) (⟨0, 0, 9, 0, 100, 0, false, false⟩ : Ea.Pkt) (by first | exact plain_ok | exact able_ok) 3 (by omega) (by omega) 0 0 (by kernel_rfl) 0 rfl).mono ?_
  rintro e f2 ⟨rfl, hb⟩
  refine hK.out _ _ ?_ ?_
  · exact ⟨rangeAt_below hHeld.1 hb, rangeAt_below hHeld.2.1 hb, below_on hHeld.2.2 hb⟩
  clear hK K hHeld hb
  intro hHeld
  try go_simp
  refine wpAnyH_take (i := 3) (v := ?_) rfl (by kernel_rfl) (by kernel_rfl) (by kernel_rfl) (fun _ _ _ h => h) (Or.inl ⟨by rfl, ?_⟩) hHeld ?_
  rotate_left
  · intro wS hSw; obtain ⟨hS0, hS1, hS2⟩ := hSw; go_simp; try with_reducible rfl
  try go_simp
  refine wpAnyH_take (i := 4) (v := ?_) rfl (by kernel_rfl) (by kernel_rfl) (by kernel_rfl) (fun _ _ _ h => h) (Or.inl ⟨by rfl, ?_⟩) hHeld ?_
  rotate_left
  · intro wS hSw; obtain ⟨hS0, hS1, hS2⟩ := hSw; go_simp; try with_reducible rfl
  try go_simp
  refine wpAnyH_take (i := 6) (v := (.agg (pktList (⟨0, 0, 9, 0, 100, 0, false, false⟩ : Ea.Pkt)).toArray)) rfl (by kernel_rfl) (by kernel_rfl) (by kernel_rfl) (fun _ _ _ h => h) (yieldsIf_load_mid (by rfl) 35 _ rfl w.heap.size 0 rfl (pktList (⟨0, 0, 9, 0, 100, 0, false, false⟩ : Ea.Pkt)) _ (fun _ h => h.1) Tryd.underlying35 rfl (by kernel_rfl)) hHeld ?_
  try go_simp
  refine wpAnyH_ready (rs := [5]) (by kernel_rfl) (by simp) ?_
  refine AllReadyH.cons rfl (fun K hK => ?_) AllReadyH.nil
  go_simp
  refine (queue_at 10 1 1 _ rfl (by omega)).mono ?_
  rintro e q5 ⟨ad5, rfl, hb, hl5⟩
  refine hK.out _ _ ?_ ?_
  · exact ⟨rangeAt_below hHeld.1 hb, rangeAt_below hHeld.2.1 hb, below_on hHeld.2.2 hb⟩
  clear hK K hHeld hb
  intro hHeld
  try go_simp
  refine wpAnyH_ready (rs := [7]) (by kernel_rfl) (by simp) ?_
  refine AllReadyH.cons rfl (fun K hK => ?_) AllReadyH.nil
  go_simp
  refine (fate_at 2 4 0 10 ad5 1 0 0 0 (exList 1) _ hl5 (exOk 10 1 (by omega) (by omega)) (table_below HT.out hHeld.2.2) (⟨0, 0, 9, 0, 100, 0, false, false⟩ : Ea.Pkt) (by first | exact plain_ok | exact able_ok) 3 (by omega) (by omega) 0 0 (by kernel_rfl) 0 rfl).mono ?_
  rintro e f7 ⟨rfl, hb⟩
  refine hK.out _ _ ?_ ?_
  · exact ⟨rangeAt_below hHeld.1 hb, rangeAt_below hHeld.2.1 hb, below_on hHeld.2.2 hb⟩
  clear hK K hHeld hb
  intro hHeld
  try go_simp
  refine wpAnyH_take (i := 8) (v := ?_) rfl (by kernel_rfl) (by kernel_rfl) (by kernel_rfl) (fun _ _ _ h => h) (Or.inl ⟨by rfl, ?_⟩) hHeld ?_
  rotate_left
  · intro wS hSw; obtain ⟨hS0, hS1, hS2⟩ := hSw; go_simp; try with_reducible rfl
  try go_simp
  refine wpAnyH_take (i := 9) (v := ?_) rfl (by kernel_rfl) (by kernel_rfl) (by kernel_rfl) (fun _ _ _ h => h) (Or.inl ⟨by rfl, ?_⟩) hHeld ?_
  rotate_left
  · intro wS hSw; obtain ⟨hS0, hS1, hS2⟩ := hSw; go_simp; try with_reducible rfl
  try go_simp
  refine wpAnyH_take (i := 10) (v := ?_) rfl (by kernel_rfl) (by kernel_rfl) (by kernel_rfl) (fun _ _ _ h => h) (Or.inl ⟨by rfl, ?_⟩) hHeld ?_
  rotate_left
  · intro wS hSw; obtain ⟨hS0, hS1, hS2⟩ := hSw; go_simp; try with_reducible rfl
  try go_simp
  refine wpAnyH_take (i := 12) (v := (.agg (pktList (⟨0, 0, 9, 0, 100, 0, false, false⟩ : Ea.Pkt)).toArray)) rfl (by kernel_rfl) (by kernel_rfl) (by kernel_rfl) (fun _ _ _ h => h) (yieldsIf_load_mid (by rfl) 35 _ rfl w.heap.size 0 rfl (pktList (⟨0, 0, 9, 0, 100, 0, false, false⟩ : Ea.Pkt)) _ (fun _ h => h.1) Tryd.underlying35 rfl (by kernel_rfl)) hHeld ?_
  try go_simp
  refine wpAnyH_ready (rs := [11]) (by kernel_rfl) (by simp) ?_
  refine AllReadyH.cons rfl (fun K hK => ?_) AllReadyH.nil
  go_simp
  refine (queue_at 10 2 2 _ rfl (by omega)).mono ?_
  rintro e q11 ⟨ad11, rfl, hb, hl11⟩
  refine hK.out _ _ ?_ ?_
  · exact ⟨rangeAt_below hHeld.1 hb, rangeAt_below hHeld.2.1 hb, below_on hHeld.2.2 hb⟩
  clear hK K hHeld hb
  intro hHeld
  try go_simp
  refine wpAnyH_ready (rs := [13]) (by kernel_rfl) (by simp) ?_
  refine AllReadyH.cons rfl (fun K hK => ?_) AllReadyH.nil
  go_simp
  refine (fate_at 2 4 0 10 ad11 1 0 0 0 (exList 2) _ hl11 (exOk 10 2 (by omega) (by omega)) (table_below HT.out hHeld.2.2) (⟨0, 0, 9, 0, 100, 0, false, false⟩ : Ea.Pkt) (by first | exact plain_ok | exact able_ok) 3 (by omega) (by omega) 0 (Rand.nextSeed 0) (by kernel_rfl) 0 rfl).mono ?_
  rintro e f13 ⟨rfl, hb⟩
  refine hK.out _ _ ?_ ?_
  · exact ⟨rangeAt_below hHeld.1 hb, rangeAt_below hHeld.2.1 hb, below_on hHeld.2.2 hb⟩
  clear hK K hHeld hb
  intro hHeld
  try go_simp
  refine wpAnyH_take (i := 14) (v := ?_) rfl (by kernel_rfl) (by kernel_rfl) (by kernel_rfl) (fun _ _ _ h => h) (Or.inl ⟨by rfl, ?_⟩) hHeld ?_
  rotate_left
  · intro wS hSw; obtain ⟨hS0, hS1, hS2⟩ := hSw; go_simp; try with_reducible rfl
  try go_simp
  refine wpAnyH_take (i := 15) (v := ?_) rfl (by kernel_rfl) (by kernel_rfl) (by kernel_rfl) (fun _ _ _ h => h) (Or.inl ⟨by rfl, ?_⟩) hHeld ?_
  rotate_left
  · intro wS hSw; obtain ⟨hS0, hS1, hS2⟩ := hSw; go_simp; try with_reducible rfl
  try go_simp
  refine wpAnyH_take (i := 16) (v := ?_) rfl (by kernel_rfl) (by kernel_rfl) (by kernel_rfl) (fun _ _ _ h => h) (Or.inl ⟨by rfl, ?_⟩) hHeld ?_
  rotate_left
  · intro wS hSw; obtain ⟨hS0, hS1, hS2⟩ := hSw; go_simp; try with_reducible rfl
  try go_simp
  refine wpAnyH_take (i := 18) (v := (.agg (pktList (⟨0, 0, 9, 0, 100, 0, false, false⟩ : Ea.Pkt)).toArray)) rfl (by kernel_rfl) (by kernel_rfl) (by kernel_rfl) (fun _ _ _ h => h) (yieldsIf_load_mid (by rfl) 35 _ rfl w.heap.size 0 rfl (pktList (⟨0, 0, 9, 0, 100, 0, false, false⟩ : Ea.Pkt)) _ (fun _ h => h.1) Tryd.underlying35 rfl (by kernel_rfl)) hHeld ?_
  try go_simp
  refine wpAnyH_ready (rs := [17]) (by kernel_rfl) (by simp) ?_
  refine AllReadyH.cons rfl (fun K hK => ?_) AllReadyH.nil
  go_simp
  refine (queue_at 10 4 4 _ rfl (by omega)).mono ?_
  rintro e q17 ⟨ad17, rfl, hb, hl17⟩
  refine hK.out _ _ ?_ ?_
  · exact ⟨rangeAt_below hHeld.1 hb, rangeAt_below hHeld.2.1 hb, below_on hHeld.2.2 hb⟩
  clear hK K hHeld hb
  intro hHeld
  try go_simp
  refine wpAnyH_ready (rs := [19]) (by kernel_rfl) (by simp) ?_
  refine AllReadyH.cons rfl (fun K hK => ?_) AllReadyH.nil
  go_simp
  refine (fate_at 2 4 0 10 ad17 1 0 0 0 (exList 4) _ hl17 (exOk 10 4 (by omega) (by omega)) (table_below HT.out hHeld.2.2) (⟨0, 0, 9, 0, 100, 0, false, false⟩ : Ea.Pkt) (by first | exact plain_ok | exact able_ok) 3 (by omega) (by omega) 1 0 (by kernel_rfl) 2 rfl).mono ?_
  rintro e f19 ⟨rfl, hb⟩
  refine hK.out _ _ ?_ ?_
  · exact ⟨rangeAt_below hHeld.1 hb, rangeAt_below hHeld.2.1 hb, below_on hHeld.2.2 hb⟩
  clear hK K hHeld hb
  intro hHeld
  try go_simp
  refine wpAnyH_take (i := 20) (v := ?_) rfl (by kernel_rfl) (by kernel_rfl) (by kernel_rfl) (fun _ _ _ h => h) (Or.inl ⟨by rfl, ?_⟩) hHeld ?_
  rotate_left
  · intro wS hSw; obtain ⟨hS0, hS1, hS2⟩ := hSw; go_simp; try with_reducible rfl
  try go_simp
  refine wpAnyH_take (i := 21) (v := ?_) rfl (by kernel_rfl) (by kernel_rfl) (by kernel_rfl) (fun _ _ _ h => h) (Or.inl ⟨by rfl, ?_⟩) hHeld ?_
  rotate_left
  · intro wS hSw; obtain ⟨hS0, hS1, hS2⟩ := hSw; go_simp; try with_reducible rfl
  try go_simp
  refine wpAnyH_take (i := 22) (v := ?_) rfl (by kernel_rfl) (by kernel_rfl) (by kernel_rfl) (fun _ _ _ h => h) (Or.inl ⟨by rfl, ?_⟩) hHeld ?_
  rotate_left
  · intro wS hSw; obtain ⟨hS0, hS1, hS2⟩ := hSw; go_simp; try with_reducible rfl
  try go_simp
  refine wpAnyH_take (i := 24) (v := (.agg (pktList (⟨0, 0, 9, 0, 100, 0, true, false⟩ : Ea.Pkt)).toArray)) rfl (by kernel_rfl) (by kernel_rfl) (by kernel_rfl) (fun _ _ _ h => h) (yieldsIf_load_mid (by rfl) 35 _ rfl (w.heap.size + 1) 0 rfl (pktList (⟨0, 0, 9, 0, 100, 0, true, false⟩ : Ea.Pkt)) _ (fun _ h => h.2.1) Tryd.underlying35 rfl (by kernel_rfl)) hHeld ?_
  try go_simp
  refine wpAnyH_ready (rs := [23]) (by kernel_rfl) (by simp) ?_
  refine AllReadyH.cons rfl (fun K hK => ?_) AllReadyH.nil
  go_simp
  refine (queue_at 10 4 4 _ rfl (by omega)).mono ?_
  rintro e q23 ⟨ad23, rfl, hb, hl23⟩
  refine hK.out _ _ ?_ ?_
  · exact ⟨rangeAt_below hHeld.1 hb, rangeAt_below hHeld.2.1 hb, below_on hHeld.2.2 hb⟩
  clear hK K hHeld hb
  intro hHeld
  try go_simp
  refine wpAnyH_ready (rs := [25]) (by kernel_rfl) (by simp) ?_
  refine AllReadyH.cons rfl (fun K hK => ?_) AllReadyH.nil
  go_simp
  refine (fate_at 2 4 0 10 ad23 1 0 0 0 (exList 4) _ hl23 (exOk 10 4 (by omega) (by omega)) (table_below HT.out hHeld.2.2) (⟨0, 0, 9, 0, 100, 0, true, false⟩ : Ea.Pkt) (by first | exact plain_ok | exact able_ok) 3 (by omega) (by omega) 1 0 (by kernel_rfl) 1 rfl).mono ?_
  rintro e f25 ⟨rfl, hb⟩
  refine hK.out _ _ ?_ ?_
  · exact ⟨rangeAt_below hHeld.1 hb, rangeAt_below hHeld.2.1 hb, below_on hHeld.2.2 hb⟩
  clear hK K hHeld hb
  intro hHeld
  try go_simp
  refine wpAnyH_take (i := 26) (v := ?_) rfl (by kernel_rfl) (by kernel_rfl) (by kernel_rfl) (fun _ _ _ h => h) (Or.inl ⟨by rfl, ?_⟩) hHeld ?_
  rotate_left
  · intro wS hSw; obtain ⟨hS0, hS1, hS2⟩ := hSw; go_simp; try with_reducible rfl
  try go_simp
  refine wpAnyH_take (i := 27) (v := ?_) rfl (by kernel_rfl) (by kernel_rfl) (by kernel_rfl) (fun _ _ _ h => h) (Or.inl ⟨by rfl, ?_⟩) hHeld ?_
  rotate_left
  · intro wS hSw; obtain ⟨hS0, hS1, hS2⟩ := hSw; go_simp; try with_reducible rfl
  try go_simp
  refine wpAnyH_take (i := 28) (v := ?_) rfl (by kernel_rfl) (by kernel_rfl) (by kernel_rfl) (fun _ _ _ h => h) (Or.inl ⟨by rfl, ?_⟩) hHeld ?_
  rotate_left
  · intro wS hSw; obtain ⟨hS0, hS1, hS2⟩ := hSw; go_simp; try with_reducible rfl
  try go_simp
  refine wpAnyH_take (i := 30) (v := (.agg (pktList (⟨0, 0, 9, 0, 100, 0, true, false⟩ : Ea.Pkt)).toArray)) rfl (by kernel_rfl) (by kernel_rfl) (by kernel_rfl) (fun _ _ _ h => h) (yieldsIf_load_mid (by rfl) 35 _ rfl (w.heap.size + 1) 0 rfl (pktList (⟨0, 0, 9, 0, 100, 0, true, false⟩ : Ea.Pkt)) _ (fun _ h => h.2.1) Tryd.underlying35 rfl (by kernel_rfl)) hHeld ?_
  try go_simp
  refine wpAnyH_ready (rs := [29]) (by kernel_rfl) (by simp) ?_
  refine AllReadyH.cons rfl (fun K hK => ?_) AllReadyH.nil
  go_simp
  refine (queue_at 1 1 1 _ rfl (by omega)).mono ?_
  rintro e q29 ⟨ad29, rfl, hb, hl29⟩
  refine hK.out _ _ ?_ ?_
  · exact ⟨rangeAt_below hHeld.1 hb, rangeAt_below hHeld.2.1 hb, below_on hHeld.2.2 hb⟩
  clear hK K hHeld hb
  intro hHeld
  try go_simp
  refine wpAnyH_ready (rs := [31]) (by kernel_rfl) (by simp) ?_
  refine AllReadyH.cons rfl (fun K hK => ?_) AllReadyH.nil
  go_simp
  refine (fate_at 2 4 0 1 ad29 1 0 0 0 (exList 1) _ hl29 (exOk 1 1 (by omega) (by omega)) (table_below HT.out hHeld.2.2) (⟨0, 0, 9, 0, 100, 0, true, false⟩ : Ea.Pkt) (by first | exact plain_ok | exact able_ok) 3 (by omega) (by omega) 2 0 (by kernel_rfl) 2 rfl).mono ?_
  rintro e f31 ⟨rfl, hb⟩
  refine hK.out _ _ ?_ ?_
  · exact ⟨rangeAt_below hHeld.1 hb, rangeAt_below hHeld.2.1 hb, below_on hHeld.2.2 hb⟩
  clear hK K hHeld hb
  intro hHeld
  try go_simp
  refine wpAnyH_take (i := 32) (v := ?_) rfl (by kernel_rfl) (by kernel_rfl) (by kernel_rfl) (fun _ _ _ h => h) (Or.inl ⟨by rfl, ?_⟩) hHeld ?_
  rotate_left
  · intro wS hSw; obtain ⟨hS0, hS1, hS2⟩ := hSw; go_simp; try with_reducible rfl
  try go_simp
  refine wpAnyH_take (i := 33) (v := ?_) rfl (by kernel_rfl) (by kernel_rfl) (by kernel_rfl) (fun _ _ _ h => h) (Or.inl ⟨by rfl, ?_⟩) hHeld ?_
  rotate_left
  · intro wS hSw; obtain ⟨hS0, hS1, hS2⟩ := hSw; go_simp; try with_reducible rfl
  try go_simp
  refine wpAnyH_take (i := 34) (v := ?_) rfl (by kernel_rfl) (by kernel_rfl) (by kernel_rfl) (fun _ _ _ h => h) (Or.inl ⟨by rfl, ?_⟩) hHeld ?_
  rotate_left
  · intro wS hSw; obtain ⟨hS0, hS1, hS2⟩ := hSw; go_simp; try with_reducible rfl
  try go_simp
  refine wpAnyH_done (by kernel_rfl) ?_ _
  have HB2 := Lib.hid hHeld.2.2
  have HP2 := Lib.hid (show World.rangeAt _ w.heap.size 0 (pktList (⟨0, 0, 9, 0, 100, 0, false, false⟩ : Ea.Pkt)) from hHeld.1)
  clear hHeld hl0 hl5 hl11 hl17 hl23 hl29
  go_wp2_with fail
  refine (queue_at 10 2 2 _ rfl (by omega)).mono ?_
  rintro e w3 ⟨ad3, rfl, hb3, hl3⟩
  have HB3 := Lib.hid (below_on HB2.out hb3)
  have HP3 := Lib.hid (rangeAt_below HP2.out hb3)
  have HL3 := Lib.hid hl3
  clear HB2 HP2 hb3 hl3
  go_wp2_with fail
  refine (take_at 2 4 0 10 ad3 1 0 0 0 (exList 2) _ HL3.out (exOk 10 2 (by omega) (by omega)) 5 (by omega) (by omega) ⟨0, 0, 0, 0, 100, 0, false, false⟩ true [exItem 1] rfl rfl rfl).mono ?_
  rintro e w4 ⟨ad4, rfl, hb4, hl4⟩
  have HB4 := Lib.hid (below_on HB3.out hb4)
  have hp4 := rangeAt_below HP3.out hb4
  have k0 := range_cell hp4 0 rfl
  have k1 := range_cell hp4 1 rfl
  have k2 := range_cell hp4 2 rfl
  have k3 := range_cell hp4 3 rfl
  have k4 := range_cell hp4 4 rfl
  have k5 := range_cell hp4 5 rfl
  have k6 := range_cell hp4 6 rfl
  have k7 := range_cell hp4 7 rfl
  have hz4 := World.block_lt_of_cell? _ _ k0
  simp only at hz4
  have HL4 := Lib.hid hl4
  clear HB3 HP3 HL3 hb4 hl4 hp4
  go_wp2_with fail
  refine (put_late 2 4 0 10 ad4 1 0 5 0 [exItem 1] _ (HL4.out.below (by exact below_new (below_new (Below.refl _ _) _) _)) (exOk1 0 5 (by omega)) (⟨0, 0, 9, 0, 100, 0, false, false⟩ : Ea.Pkt) plain_ok 4 (by omega) (by omega)).mono ?_
  rintro e w5 ⟨rfl, hb5⟩
  have HQ5 : RowKit.Hid (Blk w5 w4.heap.size [.int .i64 2, .int .i64 2, .int .i64 4, .int .i64 0, .int .i64 10, .slice (some ad4) 1 1, .int .i64 0, .int .i64 0, .int .i64 0, .int .i64 0, .int .i64 0, .int .i64 0, .int .i64 0, .int .i64 5, .int .u64 0]) := Lib.hid (((Blk.new w4 #[.int .i64 2, .int .i64 2, .int .i64 4, .int .i64 0, .int .i64 10, .slice (some ad4) 1 1, .int .i64 0, .int .i64 0, .int .i64 0, .int .i64 0, .int .i64 0, .int .i64 0, .int .i64 0, .int .i64 5, .int .u64 0] 28).below (below_new (Below.refl _ _) _)).below hb5)
  have HP5 : RowKit.Hid (Blk w5 (w4.heap.size + 1) [.int .i64 0, .int .i64 0, .int .i64 0, .int .i64 0, .int .i64 100, .int .i64 0, .bool false, .bool false]) := Lib.hid ((blk_new_at (w4.alloc (.cells #[.int .i64 2, .int .i64 2, .int .i64 4, .int .i64 0, .int .i64 10, .slice (some ad4) 1 1, .int .i64 0, .int .i64 0, .int .i64 0, .int .i64 0, .int .i64 0, .int .i64 0, .int .i64 0, .int .i64 5, .int .u64 0] 28)) #[.int .i64 0, .int .i64 0, .int .i64 0, .int .i64 0, .int .i64 100, .int .i64 0, .bool false, .bool false] 35 (by simp)).below hb5)
  have HB5 := Lib.hid (below_on (below_new (below_new HB4.out (.cells #[.int .i64 2, .int .i64 2, .int .i64 4, .int .i64 0, .int .i64 10, .slice (some ad4) 1 1, .int .i64 0, .int .i64 0, .int .i64 0, .int .i64 0, .int .i64 0, .int .i64 0, .int .i64 0, .int .i64 5, .int .u64 0] 28)) (.cells #[.int .i64 0, .int .i64 0, .int .i64 0, .int .i64 0, .int .i64 100, .int .i64 0, .bool false, .bool false] 35)) hb5)
  have HL5 := Lib.hid ((HL4.out.below (by exact below_new (below_new (Below.refl _ _) _) _)).below hb5)
  clear HB4 HL4 hb5 k0 k1 k2 k3 k4 k5 k6 k7
  go_wp2_with (first | (refine wpList_load_mid rfl 28 _ rfl w4.heap.size 0 rfl [.int .i64 2, .int .i64 2, .int .i64 4, .int .i64 0, .int .i64 10, .slice (some ad4) 1 1, .int .i64 0, .int .i64 0, .int .i64 0, .int .i64 0, .int .i64 0, .int .i64 0, .int .i64 0, .int .i64 5, .int .u64 0] _ (HQ5.out.below (by exact below_new (Below.refl _ _) _)).range Tryd.underlying28 rfl (by kernel_rfl) ?_))
  refine (put_zero 2 4 0 10 ad4 1 0 5 0 _ 5).mono ?_
  rintro e w6 ⟨rfl, hb6⟩
  have HB6 := Lib.hid (below_on (below_new HB5.out _) hb6)
  have hq6 := (HQ5.out.below (by exact below_new (Below.refl _ _) _)).below hb6
  have hp6 := (HP5.out.below (by exact below_new (Below.refl _ _) _)).below hb6
  have HL6 := Lib.hid ((HL5.out.below (by exact below_new (Below.refl _ _) _)).below hb6)
  have q0 := hq6.cell 0 rfl
  have q1 := hq6.cell 1 rfl
  have q2 := hq6.cell 2 rfl
  have q3 := hq6.cell 3 rfl
  have q4 := hq6.cell 4 rfl
  have q5 := hq6.cell 5 rfl
  have q6 := hq6.cell 6 rfl
  have q7 := hq6.cell 7 rfl
  have q8 := hq6.cell 8 rfl
  have q9 := hq6.cell 9 rfl
  have q10 := hq6.cell 10 rfl
  have q11 := hq6.cell 11 rfl
  have q12 := hq6.cell 12 rfl
  have q13 := hq6.cell 13 rfl
  have q14 := hq6.cell 14 rfl
  have p0 := hp6.cell 0 rfl
  have p1 := hp6.cell 1 rfl
  have p2 := hp6.cell 2 rfl
  have p3 := hp6.cell 3 rfl
  have p4 := hp6.cell 4 rfl
  have p5 := hp6.cell 5 rfl
  have p6 := hp6.cell 6 rfl
  have p7 := hp6.cell 7 rfl
  have hz6 := hq6.lt
  have hy6 := hp6.lt
  clear HB5 HQ5 HP5 HL5 hb6 hq6 hp6 hz4
  go_wp2_with fail
  obtain ⟨a, c, hc, hr⟩ := HL6.out
  refine (valid_yes 2 4 0 10 ad4 1 0 5 0 a 1 c [exItem 1] _ (below_cell_of (by exact below_new (Below.refl _ _) _) hc) (hr.below (by exact below_new (Below.refl _ _) _)) (by omega) (exOk1 0 5 (by omega))).mono ?_
  rintro e w7 ⟨rfl, hb7⟩
  have HB7 := Lib.hid (below_on (below_new HB6.out _) hb7)
  clear HB6 hb7 hc hr HL6
  go_wp2_with fail
  refine (valid_zero _).mono ?_
  rintro e w8 ⟨rfl, hb8⟩
  have HB8 := Lib.hid (below_on HB7.out hb8)
  clear HB7 hb8
  go_wp2
  go_ret
  exact ⟨rfl, HB8.out⟩
end Go.Proofs.YtfeemiamjmmolaaDoor
