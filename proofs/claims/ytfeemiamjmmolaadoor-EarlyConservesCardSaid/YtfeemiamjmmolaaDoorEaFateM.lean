/- What happens to a packet that is marked. -/
import Derived.Test.YtfeemiamjmmolaaDoorEaFate
namespace Go.Proofs.YtfeemiamjmmolaaDoor
open Go.RowKit

set_option maxRecDepth 100000 in
set_option maxHeartbeats 4000000 in
theorem fate_mark (A B C room : Int) (ad : Addr) (lc : Nat) (v0 v7 : Int) (s : Nat) (xs : List Ea.Item) (w : World) (hl : HoldsL w ad xs) (hx : xs.length ≤ 500) (ht : Table w) (p : Ea.Pkt) (now : Int) (v1 : Int) (s1 : Nat) (hpm : p.marked = false)
    (hcall : ∀ W, HoldsL W ad xs → Table W → Calls Tryd.prog 13 #[.agg #[.int .i64 2, .int .i64 A, .int .i64 B, .int .i64 C, .int .i64 room, .slice (some ad) 1 lc, .int .i64 v0, .int .i64 0, .int .i64 0, .int .i64 0, .int .i64 0, .int .i64 0, .int .i64 0, .int .i64 v7, .int .u64 (s : Int)], pktVal p, .int .i64 now] W (PutGives W A B C room v1 now s1 (xs ++ [⟨{ p with marked := true }, now⟩]) none)) :
    Calls Tryd.prog 12 #[.agg #[.int .i64 2, .int .i64 A, .int .i64 B, .int .i64 C, .int .i64 room, .slice (some ad) 1 lc, .int .i64 v0, .int .i64 0, .int .i64 0, .int .i64 0, .int .i64 0, .int .i64 0, .int .i64 0, .int .i64 v7, .int .u64 (s : Int)], pktVal p, .int .i64 now] w fun e V => e = .returned (.int .i64 1) ∧ Below w.heap.size w V := by
  have HC := Lib.hid hcall
  have HT := Lib.hid ht
  have HL := Lib.hid hl
  clear hcall ht hl
  have HPM := Lib.hid hpm
  clear hpm
  go_enter Tryd.func12, Tryd.ntmps12
  go_wp2_with fail
  refine (HC.out _ (HL.out.below (by exact below_new (below_new (Below.refl _ _) _) _)) (table_below HT.out (by exact below_new (below_new (Below.refl _ _) _) _))).mono ?_
  rintro e w1 ⟨ad', out, rfl, hb, ⟨a', c', hc', hr'⟩, ho⟩
  have hB := below_on (below_new (below_new (Below.refl w.heap.size w) _) _) hb
  have hq1 : Blk w1 w.heap.size (qList A B C room (some ad) 1 lc v0 v7 s) := ((Blk.new w (qList A B C room (some ad) 1 lc v0 v7 s).toArray 28).below (below_new (Below.refl _ _) _)).below hb
  have hp1 : Blk w1 (w.heap.size + 1) (pktList p) := (blk_new_at (w.alloc _) (pktList p).toArray 35 (by simp)).below hb
  obtain ⟨a, c, hc, hr⟩ := HL.out.below hB
  have q5 := hq1.cell 5 rfl
  have p0 := hp1.cell 0 rfl
  have p1 := hp1.cell 1 rfl
  have p2 := hp1.cell 2 rfl
  have p3 := hp1.cell 3 rfl
  have p4 := hp1.cell 4 rfl
  have p5 := hp1.cell 5 rfl
  have p6 := hp1.cell 6 rfl
  have p7 : w1.cell? ⟨w.heap.size + 1, 7, none⟩ = some (.bool false) := by have := hp1.cell 7 rfl; rwa [HPM.out] at this
  have hz := hp1.lt
  have hz0 := hq1.lt
  have hz2 := World.block_lt_of_cell? _ _ hc
  have hz3 := World.block_lt_of_cell? _ _ hc'
  have HR' := Lib.hid hr'
  have HB := Lib.hid hB
  have HO := Lib.hid ho
  have HP1 := Lib.hid hp1
  clear hr' hr hB hb ho hq1 hp1
  have f7 := HP1.out.frozen ⟨w.heap.size + 1, 7, none⟩ rfl
  have ho := HO.out
  obtain rfl : out = .slice none 0 0 := ho
  clear HO
  rw [List.length_append, List.length_singleton] at hc'
  obtain ⟨gb, ob, ea, hrow⟩ := HR'.out.2 xs.length (by rw [List.length_append, List.length_singleton]; omega)
  subst ea
  rw [Ea.getD_last] at hrow
  have HROW := Lib.hid hrow
  have hrow0 := hrow 0 _ rfl
  have hz4 := World.block_lt_of_cell? _ _ hrow0
  simp only at hz4
  clear hrow hrow0
  go_wp2_with (first | (refine wpList_store_new rfl 28 _ _ rfl _ #[.int .i64 2, .int .i64 A, .int .i64 B, .int .i64 C, .int .i64 room, .slice (some ad') 1 1, .int .i64 v1, .int .i64 0, .int .i64 0, .int .i64 0, .int .i64 0, .int .i64 0, .int .i64 0, .int .i64 now, .int .u64 (s1 : Int)] rfl rfl (by kernel_rfl) rfl rfl ?_))
  go_quiet (fail)
  go_wp2_with (first | (refine wpList_load_mid rfl 37 _ rfl gb (ob + xs.length * 9) (by first | rfl | exact congrArg (fun x => Value.pointer (some x)) (Addr.add_mid _ _ _)) (itemList ⟨{ p with marked := true }, now⟩) _ (rangeAt_below HROW.out (by first | exact below_new (below_drawn (Below.refl _ _)) _ | exact below_drawnN (below_new (Below.refl _ _) _) _)) Tryd.underlying37 rfl (by kernel_rfl) ?_) | (refine wpList_store_new rfl 37 _ _ rfl _ (itemList ⟨{ p with marked := true }, now⟩).toArray rfl rfl (by kernel_rfl) rfl rfl ?_))
  go_ret
  exact ⟨rfl, by repeat (first | exact HB.out | refine below_drawnN ?_ _ | refine below_drawn ?_ | refine below_new ?_ _ | refine below_set ?_ (by first | (simp; done) | (simp; omega)) _)⟩

theorem fate_any (A B C room : Int) (ad : Addr) (lc : Nat) (v0 v7 : Int) (s : Nat) (xs : List Ea.Item) (w : World) (hl : HoldsL w ad xs) (hq : QOk A B C room v0 v7 xs) (ht : Table w) (p : Ea.Pkt) (hp : p.ok) (now : Int) (h0 : v7 ≤ now) (h1 : now ≤ 10000000) (what : Int) (s1 : Nat) (hv : Ea.verdict A B xs.length room (Ea.avg v0 xs.length (2 ^ C.toNat)) s = (what, s1)) :
    Calls Tryd.prog 12 #[.agg #[.int .i64 2, .int .i64 A, .int .i64 B, .int .i64 C, .int .i64 room, .slice (some ad) 1 lc, .int .i64 v0, .int .i64 0, .int .i64 0, .int .i64 0, .int .i64 0, .int .i64 0, .int .i64 0, .int .i64 v7, .int .u64 (s : Int)], pktVal p, .int .i64 now] w fun e V => e = .returned (.int .i64 (Ea.fated what p.able p.marked)) ∧ Below w.heap.size w V := by
  have hcall := fun W (hW : HoldsL W ad xs) (hT : Table W) => put_any A B C room ad lc v0 v7 s xs W hW hq hT p hp now h0 h1 what s1 hv
  have h3 := verdict_three A B xs.length room (Ea.avg v0 xs.length (2 ^ C.toNat)) s
  rw [hv] at h3
  rcases h3 with h3 | h3 | h3
  · obtain rfl : what = 2 := h3
    exact fate_drop A B C room ad lc v0 v7 s xs w hl hq.short ht p now _ s1 hcall
  · obtain rfl : what = 1 := h3
    cases hab : p.able with
    | false =>
      have e1 : Ea.stays xs p now 1 = xs := by unfold Ea.stays; rw [if_neg (by omega), if_pos rfl, if_pos hab]
      have e2 : Ea.drops p 1 = some p := by unfold Ea.drops; rw [if_neg (by omega), if_pos rfl, if_pos hab]
      rw [e1, e2] at hcall
      exact fate_drop A B C room ad lc v0 v7 s xs w hl hq.short ht p now _ s1 hcall
    | true =>
      have e1 : Ea.stays xs p now 1 = xs ++ [⟨{ p with marked := true }, now⟩] := by unfold Ea.stays; rw [if_neg (by omega), if_pos rfl, if_neg (by rw [hab]; simp)]
      have e2 : Ea.drops p 1 = none := by unfold Ea.drops; rw [if_neg (by omega), if_pos rfl, if_neg (by rw [hab]; simp)]
      rw [e1, e2] at hcall
      cases hm : p.marked with
      | false => exact fate_mark A B C room ad lc v0 v7 s xs w hl hq.short ht p now _ s1 hm hcall
      | true =>
        have e3 : ({ p with marked := true } : Ea.Pkt) = p := by obtain ⟨_, _, _, _, _, _, _, m⟩ := p; simp only at hm; subst hm; rfl
        rw [e3] at hcall
        exact fate_keep A B C room ad lc v0 v7 s xs w hl hq.short ht p now _ s1 hcall
  · obtain rfl : what = 0 := h3
    exact fate_keep A B C room ad lc v0 v7 s xs w hl hq.short ht p now _ s1 hcall
end Go.Proofs.YtfeemiamjmmolaaDoor
