/- Valid of package dual. -/
import Derived.Test.YtdecclklenaoaaaDoorDuList
import Derived.Test.YtdecclklenaoaaaDoorQuLs
import Derived.Deep.RegionHeld
namespace Go.Proofs.YtdecclklenaoaaaDoor
open Go.RowKit

/-- What an exact test says. -/
def SaysIff (w : World) (P : Prop) (e : Ending) (V : World) : Prop := (∃ b : Bool, e = .returned (.bool b) ∧ (b = true ↔ P)) ∧ Below w.heap.size w V
/-- What makes a queue of the right form valid. -/
structure DvP (room v0 v1 v2 v3 v4 v5 v6 v7 : Int) (n1 n2 : Nat) (xs ys : List Ea.Item) : Prop where
  z1 : v1 = 0
  z2 : v2 = 0
  z3 : v3 = 0
  z4 : v4 = 0
  z5 : v5 = 0
  z6 : v6 = 0
  h0 : 0 ≤ v0 ∧ v0 ≤ 15
  h7 : 0 ≤ v7 ∧ v7 ≤ 10000000
  len : (n1 : Int) + n2 ≤ room
  l1 : ListD xs v7 true
  l2 : ListD ys v7 false
theorem quiet_more {P : Program} {f : FuncId} {args : Array Value} {w : World} {a n : Nat} {v : Value}
    (h : Calls P f args (w.drewN (a + n)) fun e w' => e = .returned v ∧ w' = w.drewN (a + n)) :
    Calls P f args (w.drewN (a + n)) fun e w'' => e = .returned v ∧ ∃ m, w'' = w.drewN (a + m) :=
  h.mono fun _ _ ⟨he, hm⟩ => ⟨he, n, hm⟩
theorem range_mid {w : World} {b : Nat} (pre cs post : List Value) (h : w.rangeAt b 0 (pre ++ cs ++ post)) : w.rangeAt b pre.length cs := by
  intro j v hv
  have hj : j < cs.length := (List.getElem?_eq_some_iff.1 hv).1
  have := h (pre.length + j) v (by rw [List.append_assoc, List.getElem?_append_right (by omega), List.getElem?_append_left (by omega), show pre.length + j - pre.length = j by omega]; exact hv)
  rwa [Nat.zero_add] at this
set_option maxRecDepth 100000 in
set_option maxHeartbeats 8000000 in
theorem dvalid_no (kind A B C room : Int) (la : Option Addr) (ln lc : Nat) (v0 v1 v2 v3 v4 v5 v6 v7 : Int) (s : Nat) (w : World) (hno : ¬ (kind = 6 ∧ 0 ≤ A ∧ A ≤ 1000000 ∧ 0 ≤ B ∧ B ≤ 1000 ∧ C = 0 ∧ 1 ≤ room ∧ room ≤ 500 ∧ (ln : Int) = 2)) :
    Calls Tryd.prog 18 #[.agg #[.int .i64 kind, .int .i64 A, .int .i64 B, .int .i64 C, .int .i64 room, .slice la ln lc, .int .i64 v0, .int .i64 v1, .int .i64 v2, .int .i64 v3, .int .i64 v4, .int .i64 v5, .int .i64 v6, .int .i64 v7, .int .u64 (s : Int)]] w fun e V => e = .returned (.bool false) ∧ Below w.heap.size w V := by
  go_enter Tryd.func18, Tryd.ntmps18
  go_wp2
  refine wp_region_held_drew (S := (fun V => V.rangeAt w.heap.size 0 [.int .i64 kind, .int .i64 A, .int .i64 B, .int .i64 C] ∧ V.rangeAt w.heap.size 6 [.int .i64 v0, .int .i64 v1, .int .i64 v2, .int .i64 v3, .int .i64 v4, .int .i64 v5, .int .i64 v6, .int .i64 v7])) (by kernel_rfl) ?_ (fun hHeld => ?_)
  · exact ⟨rangeAt_below (range_mid [] [.int .i64 kind, .int .i64 A, .int .i64 B, .int .i64 C] ([.int .i64 room, .slice la ln lc] ++ [.int .i64 v0, .int .i64 v1, .int .i64 v2, .int .i64 v3, .int .i64 v4, .int .i64 v5, .int .i64 v6, .int .i64 v7] ++ [.int .u64 (s : Int)]) (Blk.new w #[.int .i64 kind, .int .i64 A, .int .i64 B, .int .i64 C, .int .i64 room, .slice la ln lc, .int .i64 v0, .int .i64 v1, .int .i64 v2, .int .i64 v3, .int .i64 v4, .int .i64 v5, .int .i64 v6, .int .i64 v7, .int .u64 (s : Int)] 28).range) (below_drawn (Below.refl _ _)), rangeAt_below (range_mid ([.int .i64 kind, .int .i64 A, .int .i64 B, .int .i64 C] ++ [.int .i64 room, .slice la ln lc]) [.int .i64 v0, .int .i64 v1, .int .i64 v2, .int .i64 v3, .int .i64 v4, .int .i64 v5, .int .i64 v6, .int .i64 v7] [.int .u64 (s : Int)] (Blk.new w #[.int .i64 kind, .int .i64 A, .int .i64 B, .int .i64 C, .int .i64 room, .slice la ln lc, .int .i64 v0, .int .i64 v1, .int .i64 v2, .int .i64 v3, .int .i64 v4, .int .i64 v5, .int .i64 v6, .int .i64 v7, .int .u64 (s : Int)] 28).range) (below_drawn (Below.refl _ _))⟩
  refine wpAnyH_take (i := 0) (v := ?_) rfl (by kernel_rfl) (by kernel_rfl) (by kernel_rfl) (fun _ _ _ h => h) (Or.inl ⟨by rfl, ?_⟩) hHeld ?_
  rotate_left
  · intro wS hSw; obtain ⟨hS0, hS1⟩ := hSw; go_simp; try with_reducible rfl
  try go_simp
  refine wpAnyH_take (i := 1) (v := (.agg [.int .i64 kind, .int .i64 A, .int .i64 B, .int .i64 C].toArray)) rfl (by kernel_rfl) (by kernel_rfl) (by kernel_rfl) (fun _ _ _ h => h) (yieldsIf_load_mid (by rfl) 23 _ rfl w.heap.size 0 rfl [.int .i64 kind, .int .i64 A, .int .i64 B, .int .i64 C] _ (fun _ h => h.1) Tryd.underlying23 rfl (by kernel_rfl)) hHeld ?_
  try go_simp
  refine wpAnyH_take (i := 2) (v := ?_) rfl (by kernel_rfl) (by kernel_rfl) (by kernel_rfl) (fun _ _ _ h => h) (Or.inl ⟨by rfl, ?_⟩) hHeld ?_
  rotate_left
  · intro wS hSw; obtain ⟨hS0, hS1⟩ := hSw; go_simp; try with_reducible rfl
  try go_simp
  refine wpAnyH_take (i := 3) (v := (.agg [.int .i64 v0, .int .i64 v1, .int .i64 v2, .int .i64 v3, .int .i64 v4, .int .i64 v5, .int .i64 v6, .int .i64 v7].toArray)) rfl (by kernel_rfl) (by kernel_rfl) (by kernel_rfl) (fun _ _ _ h => h) (yieldsIf_load_mid (by rfl) 25 _ rfl w.heap.size 6 rfl [.int .i64 v0, .int .i64 v1, .int .i64 v2, .int .i64 v3, .int .i64 v4, .int .i64 v5, .int .i64 v6, .int .i64 v7] _ (fun _ h => h.2) Tryd.underlying25 rfl (by kernel_rfl)) hHeld ?_
  try go_simp
  refine wpAnyH_ready (rs := [4, 5]) (by kernel_rfl) (by simp) ?_
  refine AllReadyH.cons rfl (fun K hK => ?_) (AllReadyH.cons rfl (fun K hK => ?_) AllReadyH.nil)
  · go_simp
    refine hK.out _ _ ?_ (fun hHeld => ?_)
    · exact ⟨rangeAt_below hHeld.1 (below_new (Below.refl _ _) _), rangeAt_below hHeld.2 (below_new (Below.refl _ _) _)⟩
    clear hK K
    try go_simp
    refine wpAnyH_ready (rs := [5]) (by kernel_rfl) (by simp) ?_
    refine AllReadyH.cons rfl (fun K hK => ?_) AllReadyH.nil
    go_simp
    refine hK.out _ _ ?_ (fun hHeld => ?_)
    · exact ⟨rangeAt_below hHeld.1 (below_new (Below.refl _ _) _), rangeAt_below hHeld.2 (below_new (Below.refl _ _) _)⟩
    clear hK K
    try go_simp
    refine wpAnyH_ready (rs := [6]) (by kernel_rfl) (by simp) ?_
    refine AllReadyH.cons rfl (fun K hK => ?_) AllReadyH.nil
    go_simp
    refine hK.out _ _ ?_ (fun hHeld => ?_)
    · exact ⟨rangeAt_below (range_mid [] [.int .i64 kind, .int .i64 A, .int .i64 B, .int .i64 C] ([.int .i64 room, .slice la ln lc] ++ [.int .i64 v0, .int .i64 v1, .int .i64 v2, .int .i64 v3, .int .i64 v4, .int .i64 v5, .int .i64 v6, .int .i64 v7] ++ [.int .u64 (s : Int)]) (Blk.new w #[.int .i64 kind, .int .i64 A, .int .i64 B, .int .i64 C, .int .i64 room, .slice la ln lc, .int .i64 v0, .int .i64 v1, .int .i64 v2, .int .i64 v3, .int .i64 v4, .int .i64 v5, .int .i64 v6, .int .i64 v7, .int .u64 (s : Int)] 28).range) (below_drawn (below_new (below_new (Below.refl _ _) _) _)), rangeAt_below (range_mid ([.int .i64 kind, .int .i64 A, .int .i64 B, .int .i64 C] ++ [.int .i64 room, .slice la ln lc]) [.int .i64 v0, .int .i64 v1, .int .i64 v2, .int .i64 v3, .int .i64 v4, .int .i64 v5, .int .i64 v6, .int .i64 v7] [.int .u64 (s : Int)] (Blk.new w #[.int .i64 kind, .int .i64 A, .int .i64 B, .int .i64 C, .int .i64 room, .slice la ln lc, .int .i64 v0, .int .i64 v1, .int .i64 v2, .int .i64 v3, .int .i64 v4, .int .i64 v5, .int .i64 v6, .int .i64 v7, .int .u64 (s : Int)] 28).range) (below_drawn (below_new (below_new (Below.refl _ _) _) _))⟩
    clear hK K
    try go_simp
    refine wpAnyH_ready (rs := [7]) (by kernel_rfl) (by simp) ?_
    refine AllReadyH.cons rfl (fun K hK => ?_) AllReadyH.nil
    go_simp
    refine hK.out _ _ ?_ (fun hHeld => ?_)
    · exact ⟨rangeAt_below (range_mid [] [.int .i64 kind, .int .i64 A, .int .i64 B, .int .i64 C] ([.int .i64 room, .slice la ln lc] ++ [.int .i64 v0, .int .i64 v1, .int .i64 v2, .int .i64 v3, .int .i64 v4, .int .i64 v5, .int .i64 v6, .int .i64 v7] ++ [.int .u64 (s : Int)]) (Blk.new w #[.int .i64 kind, .int .i64 A, .int .i64 B, .int .i64 C, .int .i64 room, .slice la ln lc, .int .i64 v0, .int .i64 v1, .int .i64 v2, .int .i64 v3, .int .i64 v4, .int .i64 v5, .int .i64 v6, .int .i64 v7, .int .u64 (s : Int)] 28).range) (below_drawn (below_new (below_new (Below.refl _ _) _) _)), rangeAt_below (range_mid ([.int .i64 kind, .int .i64 A, .int .i64 B, .int .i64 C] ++ [.int .i64 room, .slice la ln lc]) [.int .i64 v0, .int .i64 v1, .int .i64 v2, .int .i64 v3, .int .i64 v4, .int .i64 v5, .int .i64 v6, .int .i64 v7] [.int .u64 (s : Int)] (Blk.new w #[.int .i64 kind, .int .i64 A, .int .i64 B, .int .i64 C, .int .i64 room, .slice la ln lc, .int .i64 v0, .int .i64 v1, .int .i64 v2, .int .i64 v3, .int .i64 v4, .int .i64 v5, .int .i64 v6, .int .i64 v7, .int .u64 (s : Int)] 28).range) (below_drawn (below_new (below_new (Below.refl _ _) _) _))⟩
    clear hK K
    try go_simp
    refine wpAnyH_done (by kernel_rfl) ?_ _
    go_wp2
    all_goals first
      | (go_ret; exact ⟨rfl, below_drawn (below_new (below_new (below_new (Below.refl _ _) _) _) _)⟩)
      | (exfalso; simp only [bne_eq_false_iff_eq] at *; omega)
  · go_simp
    refine hK.out _ _ ?_ (fun hHeld => ?_)
    · exact ⟨rangeAt_below hHeld.1 (below_new (Below.refl _ _) _), rangeAt_below hHeld.2 (below_new (Below.refl _ _) _)⟩
    clear hK K
    try go_simp
    refine wpAnyH_ready (rs := [4]) (by kernel_rfl) (by simp) ?_
    refine AllReadyH.cons rfl (fun K hK => ?_) AllReadyH.nil
    go_simp
    refine hK.out _ _ ?_ (fun hHeld => ?_)
    · exact ⟨rangeAt_below hHeld.1 (below_new (Below.refl _ _) _), rangeAt_below hHeld.2 (below_new (Below.refl _ _) _)⟩
    clear hK K
    try go_simp
    refine wpAnyH_ready (rs := [6]) (by kernel_rfl) (by simp) ?_
    refine AllReadyH.cons rfl (fun K hK => ?_) AllReadyH.nil
    go_simp
    refine hK.out _ _ ?_ (fun hHeld => ?_)
    · exact ⟨rangeAt_below (range_mid [] [.int .i64 kind, .int .i64 A, .int .i64 B, .int .i64 C] ([.int .i64 room, .slice la ln lc] ++ [.int .i64 v0, .int .i64 v1, .int .i64 v2, .int .i64 v3, .int .i64 v4, .int .i64 v5, .int .i64 v6, .int .i64 v7] ++ [.int .u64 (s : Int)]) (Blk.new w #[.int .i64 kind, .int .i64 A, .int .i64 B, .int .i64 C, .int .i64 room, .slice la ln lc, .int .i64 v0, .int .i64 v1, .int .i64 v2, .int .i64 v3, .int .i64 v4, .int .i64 v5, .int .i64 v6, .int .i64 v7, .int .u64 (s : Int)] 28).range) (below_drawn (below_new (below_new (Below.refl _ _) _) _)), rangeAt_below (range_mid ([.int .i64 kind, .int .i64 A, .int .i64 B, .int .i64 C] ++ [.int .i64 room, .slice la ln lc]) [.int .i64 v0, .int .i64 v1, .int .i64 v2, .int .i64 v3, .int .i64 v4, .int .i64 v5, .int .i64 v6, .int .i64 v7] [.int .u64 (s : Int)] (Blk.new w #[.int .i64 kind, .int .i64 A, .int .i64 B, .int .i64 C, .int .i64 room, .slice la ln lc, .int .i64 v0, .int .i64 v1, .int .i64 v2, .int .i64 v3, .int .i64 v4, .int .i64 v5, .int .i64 v6, .int .i64 v7, .int .u64 (s : Int)] 28).range) (below_drawn (below_new (below_new (Below.refl _ _) _) _))⟩
    clear hK K
    try go_simp
    refine wpAnyH_ready (rs := [7]) (by kernel_rfl) (by simp) ?_
    refine AllReadyH.cons rfl (fun K hK => ?_) AllReadyH.nil
    go_simp
    refine hK.out _ _ ?_ (fun hHeld => ?_)
    · exact ⟨rangeAt_below (range_mid [] [.int .i64 kind, .int .i64 A, .int .i64 B, .int .i64 C] ([.int .i64 room, .slice la ln lc] ++ [.int .i64 v0, .int .i64 v1, .int .i64 v2, .int .i64 v3, .int .i64 v4, .int .i64 v5, .int .i64 v6, .int .i64 v7] ++ [.int .u64 (s : Int)]) (Blk.new w #[.int .i64 kind, .int .i64 A, .int .i64 B, .int .i64 C, .int .i64 room, .slice la ln lc, .int .i64 v0, .int .i64 v1, .int .i64 v2, .int .i64 v3, .int .i64 v4, .int .i64 v5, .int .i64 v6, .int .i64 v7, .int .u64 (s : Int)] 28).range) (below_drawn (below_new (below_new (Below.refl _ _) _) _)), rangeAt_below (range_mid ([.int .i64 kind, .int .i64 A, .int .i64 B, .int .i64 C] ++ [.int .i64 room, .slice la ln lc]) [.int .i64 v0, .int .i64 v1, .int .i64 v2, .int .i64 v3, .int .i64 v4, .int .i64 v5, .int .i64 v6, .int .i64 v7] [.int .u64 (s : Int)] (Blk.new w #[.int .i64 kind, .int .i64 A, .int .i64 B, .int .i64 C, .int .i64 room, .slice la ln lc, .int .i64 v0, .int .i64 v1, .int .i64 v2, .int .i64 v3, .int .i64 v4, .int .i64 v5, .int .i64 v6, .int .i64 v7, .int .u64 (s : Int)] 28).range) (below_drawn (below_new (below_new (Below.refl _ _) _) _))⟩
    clear hK K
    try go_simp
    refine wpAnyH_done (by kernel_rfl) ?_ _
    go_wp2
    all_goals first
      | (go_ret; exact ⟨rfl, below_drawn (below_new (below_new (below_new (Below.refl _ _) _) _) _)⟩)
      | (exfalso; simp only [bne_eq_false_iff_eq] at *; omega)
end Go.Proofs.YtdecclklenaoaaaDoor
