/- The list of a valid queue is in order: the function of package early. -/
import Derived.Test.YtfeemiamjmmolaaDoorEaValid
import Derived.Test.YtfeemiamjmmolaaDoorEaSmall
import Derived.Test.YtfeemiamjmmolaaDoorEaRow
namespace Go.Proofs.YtfeemiamjmmolaaDoor
open Go.RowKit

set_option maxRecDepth 100000 in
set_option maxHeartbeats 4000000 in
theorem isList_yes (g : Nat) (room : Int) (ad : Addr) (lc : Nat) (v7 : Int) (a : Option Addr) (n c : Nat) (xs : List Ea.Item) (w : World) (h4 : w.cell? ⟨g, 4, none⟩ = some (.int .i64 room)) (h5 : w.cell? ⟨g, 5, none⟩ = some (.slice (some ad) 1 lc)) (h13 : w.cell? ⟨g, 13, none⟩ = some (.int .i64 v7))
    (hc : w.cell? ad = some (.slice a n c)) (hr : RdQ w a n xs) (hn : (n : Int) ≤ 9223372036854775807) (hlen : (n : Int) ≤ room) (hlist : Ea.listOk xs v7) :
    Calls Tryd.prog 26 #[.pointer (some ⟨g, 0, none⟩)] w fun e w' => e = .returned (.bool true) ∧ Below w.heap.size w w' := by
  have HR := Lib.hid hr
  have HXL := Lib.hid hr.1
  have HLI := Lib.hid hlist
  have hg := World.block_lt_of_cell? _ _ h5
  simp only at hg
  clear hr hlist
  go_enter Tryd.func26, Tryd.ntmps26
  go_wp2
  go_loopw [3, 14] (fun v i wr => ∃ k : Nat, k ≤ n ∧ i = .int .i64 k ∧ (∃ z : Int, v = .int .i64 z ∧ z = if k = 0 then 0 else (xs.getD (k - 1) default).since) ∧ Below w.heap.size w wr) (fun _ i _ => n - (intOf i).toNat)
  case atStart => exact ⟨0, Nat.zero_le _, rfl, ⟨0, rfl, by simp⟩, Below.refl _ _⟩
  case round =>
    obtain ⟨k, hk, rfl, ⟨z, rfl, hz⟩, hB⟩ := hrel
    have HZ := Lib.hid hz
    have HB := Lib.hid hB
    have hsz := hB.size
    have g4 := below_cell_of hB h4
    have g5 := below_cell_of hB h5
    have g13 := below_cell_of hB h13
    have gad := below_cell_of hB hc
    clear hB hz
    by_cases hlt : k < n
    · obtain ⟨b, o, rfl, hrk⟩ := (HR.out.below HB.out).2 k hlt
      have hgd := HLI.out k (by have := HXL.out; omega)
      obtain ⟨x, hxx⟩ : ∃ x, xs.getD k default = x := ⟨_, rfl⟩
      have hup : z ≤ x.since := by
        have h1 := HZ.out
        rw [← hxx]
        by_cases h0 : k = 0
        · rw [if_pos h0] at h1
          rw [h1]
          exact hgd.low
        · rw [if_neg h0] at h1
          rw [h1]
          exact hgd.up (by omega)
      obtain ⟨gok, _, _, ghi, _⟩ := hgd
      rw [hxx] at gok ghi hrk
      have HXX := Lib.hid hxx
      have HRK := Lib.hid hrk
      clear hrk hxx
      obtain ⟨p, since⟩ := x
      have GOK : RowKit.Hid p.ok := Lib.hid gok
      simp only at hup ghi
      clear gok
      have hgw : g < wr.heap.size := by omega
      go_wp2_with (first | (refine wpList_load_mid rfl 37 _ rfl b (o + k * 9) (by first | rfl | exact congrArg (fun x => Value.pointer (some x)) (Addr.add_mid _ _ _)) (itemList ⟨p, since⟩) _ HRK.out Tryd.underlying37 rfl (by kernel_rfl) ?_) | (refine wpList_store_new rfl 37 _ _ rfl _ (itemList ⟨p, since⟩).toArray rfl rfl (by kernel_rfl) rfl rfl ?_))
      refine wp_region_held_drew (S := (fun W => W.rangeAt wr.heap.size 0 (itemList ⟨p, since⟩) ∧ W.cell? ⟨wr.heap.size, 8, none⟩ = some (.int .i64 since) ∧ W.cell? ⟨g, 13, none⟩ = some (.int .i64 v7))) (by kernel_rfl) ?_ (fun hHeld => ?_)
      · exact ⟨fun j v hv => range_new wr #[.int .i64 p.flow, .int .i64 p.sub, .int .i64 p.number, .int .i64 p.data, .int .i64 p.size, .int .i64 p.sent, .bool p.able, .bool p.marked, .int .i64 since] _ j v hv, by go_simp, by go_simp⟩
      refine wpAnyH_take (i := 0) (v := ?_) rfl (by kernel_rfl) (by kernel_rfl) (by kernel_rfl) (fun _ _ _ h => h) (Or.inl ⟨by rfl, ?_⟩) hHeld ?_
      rotate_left
      · intro wS hSw; obtain ⟨hS0, hS1, hS2⟩ := hSw; go_simp; try with_reducible rfl
      try go_simp
      refine wpAnyH_take (i := 1) (v := pktVal p) rfl (by kernel_rfl) (by kernel_rfl) (by kernel_rfl) (fun _ _ _ h => h) (yieldsIf_load_mid (by rfl) 35 _ rfl wr.heap.size 0 rfl (pktList p) _ (fun _ h => fun j v hv => h.1 j v (pkt_of_item (x := ⟨p, since⟩) hv)) Tryd.underlying35 rfl (by kernel_rfl)) hHeld ?_
      try go_simp
      refine wpAnyH_ready (rs := [2]) (by kernel_rfl) (by simp) ?_
      refine AllReadyH.cons rfl (fun K hK => ?_) AllReadyH.nil
      go_simp
      refine (isPacket_yes p _ GOK.out).mono ?_
      rintro e w5 ⟨rfl, hb5⟩
      refine hK.out _ _ ?_ (fun hHeld => ?_)
      · exact ⟨rangeAt_below ((World.rangeAt_drew _ _ _ _).2 (range_new wr #[.int .i64 p.flow, .int .i64 p.sub, .int .i64 p.number, .int .i64 p.data, .int .i64 p.size, .int .i64 p.sent, .bool p.able, .bool p.marked, .int .i64 since] _)) hb5, below_cell_of hb5 (by go_simp), below_cell_of hb5 (by go_simp)⟩
      clear hK K
      try go_simp
      refine wpAnyH_take (i := 3) (v := ?_) rfl (by kernel_rfl) (by kernel_rfl) (by kernel_rfl) (fun _ _ _ h => h) (Or.inl ⟨by rfl, ?_⟩) hHeld ?_
      rotate_left
      · intro wS hSw; obtain ⟨hS0, hS1, hS2⟩ := hSw; go_simp; try with_reducible rfl
      try go_simp
      refine wpAnyH_take (i := 4) (v := ?_) rfl (by kernel_rfl) (by kernel_rfl) (by kernel_rfl) (fun _ _ _ h => h) (Or.inl ⟨by rfl, ?_⟩) hHeld ?_
      rotate_left
      · intro wS hSw; obtain ⟨hS0, hS1, hS2⟩ := hSw; go_simp; try with_reducible rfl
      try go_simp
      refine wpAnyH_take (i := 5) (v := ?_) rfl (by kernel_rfl) (by kernel_rfl) (by kernel_rfl) (fun _ _ _ h => h) (Or.inl ⟨by rfl, ?_⟩) hHeld ?_
      rotate_left
      · intro wS hSw; obtain ⟨hS0, hS1, hS2⟩ := hSw; go_simp; try with_reducible rfl
      try go_simp
      refine wpAnyH_take (i := 6) (v := ?_) rfl (by kernel_rfl) (by kernel_rfl) (by kernel_rfl) (fun _ _ _ h => h) (Or.inl ⟨by rfl, ?_⟩) hHeld ?_
      rotate_left
      · intro wS hSw; obtain ⟨hS0, hS1, hS2⟩ := hSw; go_simp; try with_reducible rfl
      try go_simp
      refine wpAnyH_take (i := 7) (v := ?_) rfl (by kernel_rfl) (by kernel_rfl) (by kernel_rfl) (fun _ _ _ h => h) (Or.inl ⟨by rfl, ?_⟩) hHeld ?_
      rotate_left
      · intro wS hSw; obtain ⟨hS0, hS1, hS2⟩ := hSw; go_simp; try with_reducible rfl
      try go_simp
      refine wpAnyH_take (i := 8) (v := ?_) rfl (by kernel_rfl) (by kernel_rfl) (by kernel_rfl) (fun _ _ _ h => h) (Or.inl ⟨by rfl, ?_⟩) hHeld ?_
      rotate_left
      · intro wS hSw; obtain ⟨hS0, hS1, hS2⟩ := hSw; go_simp; try with_reducible rfl
      try go_simp
      refine wpAnyH_ready (rs := [9]) (by kernel_rfl) (by simp) ?_
      refine AllReadyH.cons rfl (fun K hK => ?_) AllReadyH.nil
      go_simp
      refine hK.out _ _ ?_ (fun hHeld => ?_)
      · exact hHeld
      clear hK K
      try go_simp
      refine wpAnyH_take (i := 10) (v := ?_) rfl (by kernel_rfl) (by kernel_rfl) (by kernel_rfl) (fun _ _ _ h => h) (Or.inl ⟨by rfl, ?_⟩) hHeld ?_
      rotate_left
      · intro wS hSw; obtain ⟨hS0, hS1, hS2⟩ := hSw; go_simp; try with_reducible rfl
      try go_simp
      refine wpAnyH_take (i := 11) (v := ?_) rfl (by kernel_rfl) (by kernel_rfl) (by kernel_rfl) (fun _ _ _ h => h) (Or.inl ⟨by rfl, ?_⟩) hHeld ?_
      rotate_left
      · intro wS hSw; obtain ⟨hS0, hS1, hS2⟩ := hSw; go_simp; try with_reducible rfl
      try go_simp
      refine wpAnyH_take (i := 12) (v := ?_) rfl (by kernel_rfl) (by kernel_rfl) (by kernel_rfl) (fun _ _ _ h => h) (Or.inl ⟨by rfl, ?_⟩) hHeld ?_
      rotate_left
      · intro wS hSw; obtain ⟨hS0, hS1, hS2⟩ := hSw; go_simp; try with_reducible rfl
      try go_simp
      refine wpAnyH_take (i := 13) (v := ?_) rfl (by kernel_rfl) (by kernel_rfl) (by kernel_rfl) (fun _ _ _ h => h) (Or.inl ⟨by rfl, ?_⟩) hHeld ?_
      rotate_left
      · intro wS hSw; obtain ⟨hS0, hS1, hS2⟩ := hSw; go_simp; try with_reducible rfl
      try go_simp
      refine wpAnyH_ready (rs := [14]) (by kernel_rfl) (by simp) ?_
      refine AllReadyH.cons rfl (fun K hK => ?_) AllReadyH.nil
      go_simp
      refine (in_yes since z v7 _ hup ghi).mono ?_
      rintro e w6 ⟨rfl, rfl⟩
      refine hK.out _ _ ?_ (fun hHeld => ?_)
      · exact hHeld
      clear hK K
      try go_simp
      refine wpAnyH_take (i := 15) (v := ?_) rfl (by kernel_rfl) (by kernel_rfl) (by kernel_rfl) (fun _ _ _ h => h) (Or.inl ⟨by rfl, ?_⟩) hHeld ?_
      rotate_left
      · intro wS hSw; obtain ⟨hS0, hS1, hS2⟩ := hSw; go_simp; try with_reducible rfl
      try go_simp
      refine wpAnyH_take (i := 16) (v := ?_) rfl (by kernel_rfl) (by kernel_rfl) (by kernel_rfl) (fun _ _ _ h => h) (Or.inl ⟨by rfl, ?_⟩) hHeld ?_
      rotate_left
      · intro wS hSw; obtain ⟨hS0, hS1, hS2⟩ := hSw; go_simp; try with_reducible rfl
      try go_simp
      refine wpAnyH_done (by kernel_rfl) ?_ _
      have HB6 := Lib.hid (below_on (below_drawn (below_new HB.out _)) hb5)
      have i8 : w6.cell? ⟨wr.heap.size, 8, none⟩ = some (.int .i64 since) := hHeld.2.1
      clear hHeld hb5
      go_wp2
      go_roundw
      case rel => exact ⟨k + 1, by omega, by go_num, ⟨since, rfl, by rw [if_neg (by omega), Nat.add_sub_cancel, HXX.out]⟩, HB6.out⟩
      case measure => simp [intOf]; omega
    · obtain rfl : k = n := by omega
      go_wp2
      go_quiet (fail)
      go_wp2
      go_ret
      exact ⟨rfl, below_drawnN HB.out _⟩
end Go.Proofs.YtfeemiamjmmolaaDoor
