/- open of package early, at a valid queue. -/
import Derived.Test.YtfeemiamjmmolaaDoorEaOpen
import Derived.Test.YtfeemiamjmmolaaDoorEaRow
namespace Go.Proofs.YtfeemiamjmmolaaDoor
open Go.RowKit

/-- The cells of a queue of package early. -/
abbrev qList (A B C room : Int) (la : Option Addr) (ln lc : Nat) (v0 v7 seed : Int) : List Value := [.int .i64 2, .int .i64 A, .int .i64 B, .int .i64 C, .int .i64 room, .slice la ln lc, .int .i64 v0, .int .i64 0, .int .i64 0, .int .i64 0, .int .i64 0, .int .i64 0, .int .i64 0, .int .i64 v7, .int .u64 seed]
/-- A queue that open has made: its own block, a block for its list of lists, and the list. -/
structure Opened (w W : World) (g g1 : Nat) (A B C room v0 now seed : Int) (a : Option Addr) (n c : Nat) (xs : List Ea.Item) : Prop where
  below : Below w.heap.size w W
  q : Blk W g (qList A B C room (some ⟨g1, 0, none⟩) 1 1 v0 now seed)
  l : Blk W g1 [.slice a n c]
  own : OwnL W w.heap.size a n c xs
  hg : w.heap.size ≤ g
  hg1 : w.heap.size ≤ g1
  ne : g ≠ g1
def OpenSays (w : World) (A B C room v0 now seed : Int) (n : Nat) (xs : List Ea.Item) (e : Ending) (W : World) : Prop :=
  ∃ g g1 a c, e = .returned (.tuple #[.pointer (some ⟨g, 0, none⟩), .int .i64 0]) ∧ Opened w W g g1 A B C room v0 now seed a n c xs
theorem opened_mk {w W2 V : World} {A B C room v0 now seed : Int} {a' : Option Addr} {n c' : Nat} {xs : List Ea.Item} (hB2 : Below w.heap.size w W2) (hz : w.heap.size < W2.heap.size) (hown : OwnL V W2.heap.size a' n c' xs) (hV : Below W2.heap.size W2 V) (t1 t2 : TypeId) :
    Opened w (((V.setCell ⟨w.heap.size, 5, none⟩ (.slice (some ⟨V.heap.size, 0, none⟩) 1 1)).alloc (.cells #[.slice a' n c'] t1)).alloc (.cells (qList A B C room (some ⟨V.heap.size, 0, none⟩) 1 1 v0 now seed).toArray t2)) (V.heap.size + 1) V.heap.size A B C room v0 now seed a' n c' xs := by
  have hB : Below w.heap.size w V := below_on hB2 hV
  have hzV := hV.size
  refine ⟨below_new (below_new (below_set hB (Nat.le_refl _) _) _) _, blk_new_at _ _ _ (by simp only [World.size_alloc, World.size_setCell]), (blk_new_at _ #[.slice a' n c'] _ (by simp only [World.size_setCell])).below (below_new (Below.refl _ _) _), ?_, by omega, by omega, by omega⟩
  refine OwnL.below (OwnL.below ((hown.kept (grown_set V ⟨w.heap.size, 5, none⟩ _) ?_).mono (Nat.le_of_lt hz)) (below_new (Below.refl _ _) _)) (below_new (Below.refl _ _) _)
  rintro ad rfl h0 e
  obtain ⟨g, e1, h1, _⟩ := hown.head h0
  injection e1 with e1
  subst e1
  injection e with e
  simp only at e
  omega
set_option maxRecDepth 100000 in
set_option maxHeartbeats 4000000 in
theorem open_yes (A B C room : Int) (ad : Addr) (lc : Nat) (v0 v7 : Int) (seed : Int) (a : Option Addr) (n c : Nat) (xs : List Ea.Item) (w : World) (hc : w.cell? ad = some (.slice a n c)) (hr : RdQ w a n xs) (hn : (n : Int) ≤ 9223372036854775807) (hq : QOk A B C room v0 v7 xs) (now : Int) (h0 : v7 ≤ now) (h1 : now ≤ 10000000) :
    Calls Tryd.prog 20 #[.agg #[.int .i64 2, .int .i64 A, .int .i64 B, .int .i64 C, .int .i64 room, .slice (some ad) 1 lc, .int .i64 v0, .int .i64 0, .int .i64 0, .int .i64 0, .int .i64 0, .int .i64 0, .int .i64 0, .int .i64 v7, .int .u64 seed], .int .i64 now] w fun e W => OpenSays w A B C room v0 now seed n xs e W := by
  have hlt := World.block_lt_of_cell? _ _ hc
  have HR := Lib.hid hr
  have HQ := Lib.hid hq
  have hn6 : n ≤ 600 := by have := hq.len; have := hq.r1; have := hr.1; omega
  have hnow : 0 ≤ now := by have := hq.t0; omega
  have hb : decide (now < v7) = false := decide_eq_false (by omega)
  clear hr hq
  go_enter Tryd.func20, Tryd.ntmps20
  go_wp2_with fail
  refine (valid_yes A B C room ad lc v0 v7 seed a n c xs _ (below_cell_of (below_new (Below.refl _ _) _) hc) (HR.out.below (below_new (Below.refl _ _) _)) hn HQ.out).mono ?_
  rintro e w1 ⟨rfl, hb1⟩
  have hB1 : Below w.heap.size w w1 := below_on (below_new (Below.refl _ _) _) hb1
  have hq1 : Blk w1 w.heap.size [.int .i64 2, .int .i64 A, .int .i64 B, .int .i64 C, .int .i64 room, .slice (some ad) 1 lc, .int .i64 v0, .int .i64 0, .int .i64 0, .int .i64 0, .int .i64 0, .int .i64 0, .int .i64 0, .int .i64 v7, .int .u64 seed] := (Blk.new w #[.int .i64 2, .int .i64 A, .int .i64 B, .int .i64 C, .int .i64 room, .slice (some ad) 1 lc, .int .i64 v0, .int .i64 0, .int .i64 0, .int .i64 0, .int .i64 0, .int .i64 0, .int .i64 0, .int .i64 v7, .int .u64 seed] 28).below hb1
  go_wp2_with fail
  refine (in_yes now 0 10000000 _ hnow h1).mono ?_
  rintro e w2 ⟨rfl, rfl⟩
  have k13 := hq1.cell 13 rfl
  have k5 := hq1.cell 5 rfl
  have f13 := hq1.frozen ⟨w.heap.size, 13, none⟩ rfl
  have hz2 := hq1.lt
  have hA : (w2.setCell ⟨w.heap.size, 13, none⟩ (.int .i64 now)).cell? ad = some (.slice a n c) := cell_apart (below_cell_of hB1 hc) (by simp only; omega)
  have hB2 : Below w.heap.size w (w2.setCell ⟨w.heap.size, 13, none⟩ (.int .i64 now)) := below_set hB1 (Nat.le_refl _) _
  have hq2 : Blk (w2.setCell ⟨w.heap.size, 13, none⟩ (.int .i64 now)) w.heap.size (qList A B C room (some ad) 1 lc v0 now seed) := hq1.set 13 (.int .i64 now)
  have HB1 := Lib.hid hB1
  have HB2 := Lib.hid hB2
  have HQ2 := Lib.hid hq2
  clear hB1 hB2 hq1 hb1 hq2
  cases a with
  | none =>
    go_wp2_with (first | (at_builtin; refine wpList_copy_items rfl _ _ rfl rfl rfl (HR.out.below HB2.out) hn6 ?_; intro a' c' V hown hbV; have hqV := HQ2.out.below hbV; have kV5 := hqV.cell 5 rfl; have fV5 := hqV.frozen ⟨w.heap.size, 5, none⟩ rfl; have hzV := hqV.lt; have HOWN := Lib.hid hown; have HBV := Lib.hid hbV; have HQV := Lib.hid hqV; clear hown hbV hqV) | (refine wpList_load_mid rfl 28 _ rfl w.heap.size 0 rfl (qList A B C room (some ⟨V.heap.size, 0, none⟩) 1 1 v0 now seed) _ (Blk.range (Blk.below (Blk.set HQV.out 5 (.slice (some ⟨V.heap.size, 0, none⟩) 1 1)) (below_new (Below.refl _ _) _))) Tryd.underlying28 rfl (by kernel_rfl) ?_))
    go_ret2
    exact ⟨V.heap.size + 1, V.heap.size, a', c', rfl, opened_mk HB2.out (by simp only [World.size_setCell]; exact hz2) HOWN.out HBV.out _ _⟩
  | some a =>
    go_wp2_with (first | (at_builtin; refine wpList_copy_items rfl _ _ rfl rfl rfl (HR.out.below HB2.out) hn6 ?_; intro a' c' V hown hbV; have hqV := HQ2.out.below hbV; have kV5 := hqV.cell 5 rfl; have fV5 := hqV.frozen ⟨w.heap.size, 5, none⟩ rfl; have hzV := hqV.lt; have HOWN := Lib.hid hown; have HBV := Lib.hid hbV; have HQV := Lib.hid hqV; clear hown hbV hqV) | (refine wpList_load_mid rfl 28 _ rfl w.heap.size 0 rfl (qList A B C room (some ⟨V.heap.size, 0, none⟩) 1 1 v0 now seed) _ (Blk.range (Blk.below (Blk.set HQV.out 5 (.slice (some ⟨V.heap.size, 0, none⟩) 1 1)) (below_new (Below.refl _ _) _))) Tryd.underlying28 rfl (by kernel_rfl) ?_))
    go_ret2
    exact ⟨V.heap.size + 1, V.heap.size, a', c', rfl, opened_mk HB2.out (by simp only [World.size_setCell]; exact hz2) HOWN.out HBV.out _ _⟩
end Go.Proofs.YtfeemiamjmmolaaDoor
