/- The iterator of package route: it yields the hops of a path with their links, in order, until a round says that it wants no more. -/
import Derived.Test.YtjjplcjinhcpiaaRoWalk
import Derived.RangeFuncNested
import Derived.RangeFuncBound
import Derived.RangeFuncCalls
import Derived.RangeFuncLeaves
import Derived.Shelf.Abstract
import Derived.Shelf.RegionOpen
import Derived.OwnWalkIn
import Derived.TacticsInMore
import Derived.LoopNIn
import Derived.LoopIn
namespace Go.Proofs.Ytjjplcjinhcpiaa
open Go.RowKit Go.Shelf

attribute [local go_sem] Oper.semAt_some

/-- A hop and its link. -/
abbrev Hop (q : Int → Prop) := { x : Nat × Int // q x.2 }
abbrev hopEnc {q : Int → Prop} (x : Hop q) : Array Value := #[.int .i64 x.1.1, .int .i64 x.1.2]
def hopsTo (ls : List Int) (k : Nat) : List (Nat × Int) := (List.range k).map fun j => (j, ls.getD j 0)
theorem hopsTo_succ (ls : List Int) (k : Nat) : hopsTo ls (k + 1) = hopsTo ls k ++ [(k, ls.getD k 0)] := by simp [hopsTo, List.range_succ]
theorem hopsTo_length (ls : List Int) (k : Nat) : (hopsTo ls k).length = k := by simp [hopsTo]
theorem hopsTo_snd (ls : List Int) (k : Nat) (hk : k ≤ ls.length) : (hopsTo ls k).map (·.2) = ls.take k := by
  unfold hopsTo
  rw [List.map_map]
  apply List.ext_getElem
  · simp; omega
  · intro i h1 h2
    have : i < ls.length := by simp at h2; omega
    simp [List.getD_eq_getElem?_getD, List.getElem?_eq_getElem this]

/-- What a round must keep: the cells below n0, and those of the block of the path. -/
def KC (n0 Bp : Nat) (W W' : World) : Prop := ∀ a v, (a.block < n0 ∨ a.block = Bp) → W.cell? a = some v → W'.cell? a = some v
theorem KC.refl (n0 Bp : Nat) (W : World) : KC n0 Bp W W := fun _ _ _ h => h
theorem KC.trans {n0 Bp : Nat} {A B C : World} (h : KC n0 Bp A B) (k : KC n0 Bp B C) : KC n0 Bp A C := fun a v ha hc => k a v ha (h a v ha hc)
theorem KC.put {n0 Bp : Nat} (W : World) (l : Nat) (o o' : Obj) (h : W.heap[l]? = some o) (hc : o.isCells = false) : KC n0 Bp W (W.putObj l o') :=
  fun _ _ _ hcell => cell_kept hcell (grownBy_putObj' W l o') (fun r e => by cases e; exact ⟨o, h, hc⟩)
theorem KC.of_below {n0 Bp : Nat} {W W' : World} (h : Below W.heap.size W W') : KC n0 Bp W W' := fun _ _ _ hc => below_cell_of h hc
theorem KC.set {n0 Bp : Nat} (W : World) {p : Addr} (u : Value) (h0 : n0 ≤ p.block) (h1 : p.block ≠ Bp) : KC n0 Bp W (W.setCell p u) := fun a v ha hc => cell_set_ne hc (by rcases ha with h | h <;> omega)
theorem RdI.keep {n0 Bp : Nat} {W W' : World} {k : IntKind} {a : Option Addr} {n : Nat} {zs : List Int} (h : RdI W k a n zs) (hb : ∀ ad, a = some ad → ad.block < n0) (hk : KC n0 Bp W W') : RdI W' k a n zs :=
  ⟨h.1, fun i hi => by
    obtain ⟨ad, e, hc⟩ := h.2 i hi
    have e3 : (ad.add i).block = ad.block := by unfold Addr.add; split <;> rfl
    exact ⟨ad, e, hk _ _ (.inl (by rw [e3]; exact hb ad e)) hc⟩⟩
theorem grown_of_below {W W' : World} (hb : Below W.heap.size W W') (row : Option Nat) : W.grownBy W' row := ⟨hb.os, hb.tape, hb.output, hb.size, fun i hi _ => hb.block i hi⟩
theorem keepsOthers_below {W W' : World} (hb : Below W.heap.size W W') : KeepsOthers W W' := KeepsOthers.of_grownBy (grown_of_below hb none) (fun r o e => by cases e)

theorem hops_any (a : Option Addr) (len cap : Nat) (back : Int) (up : Bool) (w : World) :
    Calls Try.prog 24 #[.agg #[.slice a len cap, .int .i64 back, .bool up]] w fun e w' => e = .returned (.func (.func 30) #[] #[.pointer (some ⟨w.heap.size, 0, none⟩)]) ∧ w' = w.alloc (.cells #[.slice a len cap, .int .i64 back, .bool up] 26) := by
  go_enter Try.func24, Try.ntmps24
  go_wp2
  go_ret
  exact ⟨rfl, rfl⟩

set_option maxRecDepth 100000 in
set_option maxHeartbeats 4000000 in
theorem hops1_in {q : Int → Prop} (n : Nat) (hn : 1 ≤ n) (l Bp n0 : Nat) (a : Option Addr) (len cap : Nat) (back : Int) (up : Bool) (ls : List Int) (hm : (len : Int) ≤ 9223372036854775806) (hab : ∀ ad, a = some ad → ad.block < n0) (hq : ∀ x, x ∈ ls → q x) (Bj : Nat) (J Jx : List (Hop q) → World → Prop) (hJ : AbidesFrom Bj J)
    (hY : ∀ pre x W, J pre W → pre.length < len → YieldAt Fence.wide (n - 1) Try.prog l (hopEnc x) W fun e W' =>
      (e = .returned (.bool true) ∧ J (pre ++ [x]) W' ∧ KC n0 Bp W W') ∨ (e = .returned (.bool false) ∧ Jx (pre ++ [x]) W'))
    (W : World) (h0 : W.cell? ⟨Bp, 0, none⟩ = some (.slice a len cap)) (h1 : W.cell? ⟨Bp, 1, none⟩ = some (.int .i64 back)) (h2 : W.cell? ⟨Bp, 2, none⟩ = some (.bool up)) (hl : RdI W .i64 a len ls) (hj : J [] W) :
    CallsIn Fence.wide n Try.prog 30 #[.func (.yield l) #[] #[], .pointer (some ⟨Bp, 0, none⟩)] W fun e W' => (∃ v, e = .returned v) ∧
      ((∃ ys, ys.map (·.1) = hopsTo ls len ∧ J ys W') ∨ (∃ pre, (∃ k, k ≤ len ∧ pre.map (·.1) = hopsTo ls k) ∧ Jx pre W')) := by
  have HL := Lib.hid hl
  have HQ := Lib.hid hq
  have HAB := Lib.hid hab
  have HY := Lib.hid hY
  have HJ := Lib.hid hJ
  have hzl := hl.1
  have HZ := Lib.hid hzl
  clear hl hq hab hY hJ hzl
  refine callsIn_of_wp Try.func30 rfl trivial ?_ rfl
  simp only [Try.ntmps30, List.size_toArray, List.length_cons, List.length_nil, Nat.reduceAdd, Nat.reduceSub, Array.replicate_succ, Array.replicate_zero, List.push_toArray, List.append_toArray, List.nil_append, List.cons_append]
  gi_wp2
  gi_loopw [3] (fun i wr => ∃ (k : Nat) (pre : List (Hop q)), k ≤ len ∧ i = .int .i64 k ∧ pre.map (·.1) = hopsTo ls k ∧ J pre wr ∧ KC n0 Bp W wr) (fun i _ => len + 1 - (intOf i).toNat)
  case atStart => exact ⟨0, [], Nat.zero_le _, rfl, rfl, hj, KC.refl _ _ _⟩
  case round =>
    obtain ⟨k, pre, hk, rfl, hp, hJs, hkc⟩ := hrel
    have c0 := hkc _ _ (.inr rfl) h0
    have c1 := hkc _ _ (.inr rfl) h1
    have c2 := hkc _ _ (.inr rfl) h2
    have HP := Lib.hid hp
    have HJS := Lib.hid hJs
    have HKC := Lib.hid hkc
    clear hp hJs hkc
    have hrd : RdI wr .i64 a len ls := HL.out.keep HAB.out HKC.out
    have HRD := Lib.hid hrd
    clear hrd
    gi_wp2
    rcases Nat.lt_or_ge k len with hlt | hge
    · have hnx := Lib.hid (Ro.next_in ls k (by have := HZ.out; omega))
      refine ⟨trivial, ?_⟩
      refine (callsIn_wide.2 (next_any a len cap ls back up k _ HRD.out (by omega))).mono ?_
      rw [hnx.out]
      rintro e w3 ⟨rfl, hb⟩
      have hjs3 := HJ.out _ _ _ none HJS.out (grown_of_below hb none) (fun r e => by cases e)
      obtain ⟨x, hx⟩ : ∃ x : Hop q, x.1 = (k, ls.getD k 0) := ⟨⟨(k, ls.getD k 0), HQ.out _ (HRD.out.mem hlt)⟩, rfl⟩
      have HX := Lib.hid hx
      obtain ⟨fn, tmps, assign, body, hy, hR⟩ := HY.out pre x w3 hjs3 (by
        have := congrArg List.length HP.out
        rw [List.length_map, hopsTo_length] at this
        omega)
      have HB := Lib.hid hb
      have HR := Lib.hid hR
      simp only [hopEnc, hx, List.getD_eq_getElem?_getD] at hy
      clear hx hb hjs3 hnx hR
      gi_wp2
      refine HR.out.mono ?_
      rintro e W3 (⟨rfl, hJ3, hk3⟩ | ⟨rfl, hJx3⟩)
      · have HJ3 := Lib.hid hJ3
        have HK3 := Lib.hid (HKC.out.trans ((KC.of_below HB.out).trans hk3))
        clear hJ3 hk3
        gi_wp2
        go_roundw
        case rel => exact ⟨k + 1, pre ++ [x], by omega, by go_num, by rw [List.map_append, HP.out, hopsTo_succ, ← HX.out]; rfl, HJ3.out, HK3.out⟩
        case measure => simp [intOf]; omega
      · have HJX := Lib.hid hJx3
        clear hJx3
        gi_wp2
        refine bodyPost_ret (results_none rfl _ _ _) rfl ?_
        exact ⟨⟨_, rfl⟩, .inr ⟨pre ++ [x], ⟨k + 1, by omega, by rw [List.map_append, HP.out, hopsTo_succ, ← HX.out]; rfl⟩, HJX.out⟩⟩
    · obtain rfl : k = len := by omega
      have hnx := Lib.hid (Ro.next_out ls k (by have := HZ.out; omega))
      refine ⟨trivial, ?_⟩
      refine (callsIn_wide.2 (next_any a k cap ls back up k _ HRD.out (by omega))).mono ?_
      rw [hnx.out]
      rintro e w3 ⟨rfl, hb⟩
      have HJ3 := Lib.hid (HJ.out _ _ _ none HJS.out (grown_of_below hb none) (fun r e => by cases e))
      clear hb hnx
      gi_wp2
      refine ⟨fun _ h => (by cases h), ?_⟩
      gi_wp2
      refine bodyPost_ret (results_none rfl _ _ _) rfl ?_
      exact ⟨⟨_, rfl⟩, .inl ⟨pre, HP.out, HJ3.out⟩⟩

/-- The closure's contract: all hops, or those up to one at which a round said that it wants no more. -/
theorem hops_stops {q : Int → Prop} (n : Nat) (hn : 1 ≤ n) (Bp n0 : Nat) (a : Option Addr) (len cap : Nat) (back : Int) (up : Bool) (ls : List Int) (hm : (len : Int) ≤ 9223372036854775806) (hab : ∀ ad, a = some ad → ad.block < n0) (hq : ∀ x, x ∈ ls → q x)
    (w : World) (h0 : w.cell? ⟨Bp, 0, none⟩ = some (.slice a len cap)) (h1 : w.cell? ⟨Bp, 1, none⟩ = some (.int .i64 back)) (h2 : w.cell? ⟨Bp, 2, none⟩ = some (.bool up)) (hl : RdI w .i64 a len ls) :
    SeqStopsK (α := Hop q) Fence.wide n Try.prog 30 #[.pointer (some ⟨Bp, 0, none⟩)] hopEnc (KC n0 Bp) (fun ys => ys.map (·.1) = hopsTo ls len) (fun pre => ∃ k, k ≤ len ∧ pre.map (·.1) = hopsTo ls k) len w := fun l J Jx W hW hJ _ hY hj =>
  hops1_in n hn l Bp n0 a len cap back up ls hm hab hq W.heap.size J Jx hJ hY W (below_cell_of hW h0) (below_cell_of hW h1) (below_cell_of hW h2) (hl.below hW) hj
end Go.Proofs.Ytjjplcjinhcpiaa
