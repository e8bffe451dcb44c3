/- The statement RouteOrder: it returns true, whatever the input, and leaves what was in memory alone. -/
import Derived.Test.YtjjplcjinhcpiaaRoHead
namespace Go.Proofs.Ytjjplcjinhcpiaa
open Go.RowKit

/-- The array says which of the first k links have come. -/
def SeenIs (W : World) (B : Nat) (xs : List Int) : Prop := (∀ j : Nat, j < 8 → W.cell? ⟨B, j, none⟩ = some (.bool (decide ((j : Int) ∈ xs)))) ∧ ∀ j : Nat, j < 8 → W.frozen? ⟨B, j, none⟩ = false
theorem SeenIs.below {W V : World} {B : Nat} {xs : List Int} (h : SeenIs W B xs) (hb : Below W.heap.size W V) (hB : B < W.heap.size) : SeenIs V B xs :=
  ⟨fun j hj => below_cell_of hb (h.1 j hj), fun j hj => below_frozen_of hb hB (h.2 j hj)⟩
theorem SeenIs.set {W : World} {B : Nat} {xs : List Int} (h : SeenIs W B xs) (j : Nat) (hj : j < 8) : SeenIs (W.setCell ⟨B, j, none⟩ (.bool true)) B (xs ++ [(j : Int)]) := by
  refine ⟨fun i hi => ?_, fun i hi => by rw [World.frozen?_setCell]; exact h.2 i hi⟩
  by_cases e : i = j
  · subst e
    rw [World.cell?_setCell_same' _ _ _ (by rw [h.1 i hi]; rfl)]
    simp
  · rw [World.cell?_setCell_other _ _ _ _ (by intro k; injection k with _ k; exact e k.symm), h.1 i hi]
    have : ¬ (i : Int) = (j : Int) := by omega
    simp [this]
theorem seen_start (W : World) (t : TypeId) : SeenIs (W.alloc (.cells #[.bool false, .bool false, .bool false, .bool false, .bool false, .bool false, .bool false, .bool false] t)) W.heap.size [] := by
  refine ⟨fun j hj => ?_, fun j hj => ?_⟩
  · match j, hj with
    | 0, _ | 1, _ | 2, _ | 3, _ | 4, _ | 5, _ | 6, _ | 7, _ => go_simp
  · match j, hj with
    | 0, _ | 1, _ | 2, _ | 3, _ | 4, _ | 5, _ | 6, _ | 7, _ => go_simp
theorem take_snoc_int (ls : List Int) (k : Nat) (hk : k < ls.length) : ls.take (k + 1) = ls.take k ++ [ls.getD k 0] := by
  rw [List.take_add_one, List.getD_eq_getElem?_getD, List.getElem?_eq_getElem hk]
  rfl
theorem nodup_take {ls : List Int} (h : ls.Nodup) {k : Nat} (hk : k < ls.length) : ¬ ls.getD k 0 ∈ ls.take k := by
  intro hm
  have h2 : (ls.take (k + 1)).Nodup := h.sublist (List.take_sublist _ _)
  rw [take_snoc_int ls k hk, List.nodup_append] at h2
  exact h2.2.2 _ hm _ (List.mem_singleton.2 rfl) rfl
theorem wf_u8 {n : Int} (h : (Lit.int .u8 n).wf = true) : 0 ≤ n ∧ n ≤ 255 := by
  simp [Lit.wf, IntKind.min, IntKind.max, IntKind.signed, IntKind.bits] at h
  omega
theorem fewB_one (p : PathV) : fewB 1 [p] = decide (p.len ≤ 20) := by
  unfold fewB
  simp

set_option maxHeartbeats 4000000 in
set_option maxRecDepth 100000 in
theorem order_entry (many : Int) (a : Option Addr) (len cap : Nat) (ls : List Int) (back : Int) (up : Bool) (b : Int) (w : World) (_w0 : (Lit.int .i64 many).wf = true) (hl : RdI w .i64 a len ls) (hm : (len : Int) ≤ 9223372036854775807) (w2 : (Lit.int .u8 b).wf = true) :
    Calls Try.prog 4 #[.int .i64 many, .agg #[.slice a len cap, .int .i64 back, .bool up], .int .u8 b] w fun e w' => e = .returned (.bool true) ∧ Below w.heap.size w w' := by
  obtain ⟨b0, b1⟩ := wf_u8 w2
  have HL := Lib.hid hl
  have hz := hl.1
  have HZ := Lib.hid hz
  clear hl w2 hz
  obtain ⟨c, hc⟩ : ∃ c, Ro.check many [(ls, back)] = c := ⟨_, rfl⟩
  have HC := Lib.hid hc
  clear hc
  go_enter Try.func4, Try.ntmps4
  go_wp2_with fail
  refine (head_ok _).mono ?_
  rintro e w1 ⟨rfl, hb1⟩
  have HB1 := Lib.hid (below_on (below_new (Below.refl _ _) _) hb1)
  have p0 := below_cell_of hb1 (a := ⟨w.heap.size, 0, none⟩) (v := .slice a len cap) (by go_simp)
  have p1 := below_cell_of hb1 (a := ⟨w.heap.size, 1, none⟩) (v := .int .i64 back) (by go_simp)
  have p2 := below_cell_of hb1 (a := ⟨w.heap.size, 2, none⟩) (v := .bool up) (by go_simp)
  have hz1 := hb1.size
  simp only [World.size_alloc] at hz1
  have hl1 : w.heap.size < w1.heap.size := by omega
  clear hb1 hz1
  go_wp2_with fail
  refine (few_any none 0 0 (some ⟨w1.heap.size, 0, none⟩) 1 1 [⟨a, len, cap, ls, back, up⟩] _ (rdP_one (by go_simp) (by go_simp) (by go_simp) ⟨HL.out.below (below_new HB1.out _), hm⟩) (by omega)).mono ?_
  rw [fewB_one, show decide (0 ≤ 20) = true from rfl]
  rintro e w3 ⟨rfl, rfl⟩
  by_cases h20 : 20 < len
  · have h20' : ¬ len ≤ 20 := by omega
    go_wp2
    go_ret
    exact ⟨rfl, below_new HB1.out _⟩
  · have h20' : len ≤ 20 := by omega
    go_wp2_with fail
    refine (check_any many (some ⟨w1.heap.size + 1, 0, none⟩) 1 1 [⟨a, len, cap, ls, back, up⟩] _ (rdP_one (by go_simp) (by go_simp) (by go_simp) ⟨HL.out.below (below_new (below_new HB1.out _) _), hm⟩) (by omega)).mono ?_
    rw [show ([⟨a, len, cap, ls, back, up⟩] : List PathV).map PathV.plain = [(ls, back)] from rfl, HC.out]
    rintro e w4 ⟨rfl, hb4⟩
    have HB4 := Lib.hid (below_on (below_new (below_new HB1.out _) _) hb4)
    have q0 := below_cell_of hb4 (a := ⟨w.heap.size, 0, none⟩) (v := .slice a len cap) (below_cell_of (below_new (below_new (Below.refl _ _) _) _) p0)
    have q1 := below_cell_of hb4 (a := ⟨w.heap.size, 1, none⟩) (v := .int .i64 back) (below_cell_of (below_new (below_new (Below.refl _ _) _) _) p1)
    have q2 := below_cell_of hb4 (a := ⟨w.heap.size, 2, none⟩) (v := .bool up) (below_cell_of (below_new (below_new (Below.refl _ _) _) _) p2)
    have hz4 := hb4.size
    simp only [World.size_alloc] at hz4
    have hl4 : w.heap.size < w4.heap.size := by omega
    clear hb4 hz4 p0 p1 p2 hl1
    by_cases hc0 : c = 0
    · subst hc0
      obtain ⟨hm8, hl6, hall, hnd, _⟩ := Ro.check_one HC.out
      obtain ⟨_, hm8⟩ := (Ro.inside_iff _ _ _).1 hm8
      have HALL := Lib.hid hall
      have HND := Lib.hid hnd
      clear hall hnd hl6
      have hst := seen_start w4 38
      have HST := Lib.hid hst
      clear hst
      go_wp2
      go_loopw [32] (fun i wr => ∃ k : Nat, k ≤ len ∧ i = .int .i64 k ∧ SeenIs wr w4.heap.size (ls.take k) ∧ wr.cell? ⟨w.heap.size, 0, none⟩ = some (.slice a len cap) ∧ wr.cell? ⟨w.heap.size, 1, none⟩ = some (.int .i64 back) ∧ wr.cell? ⟨w.heap.size, 2, none⟩ = some (.bool up) ∧ w4.heap.size < wr.heap.size ∧ Below w.heap.size w wr) (fun i _ => len - (intOf i).toNat)
      case atStart => exact ⟨0, Nat.zero_le _, rfl, HST.out, below_cell_of (below_new (Below.refl _ _) _) q0, below_cell_of (below_new (Below.refl _ _) _) q1, below_cell_of (below_new (Below.refl _ _) _) q2, by simp, below_new HB4.out _⟩
      case round =>
        obtain ⟨k, hk, rfl, hseen, r0, r1, r2, hsz, hB⟩ := hrel
        have HS := Lib.hid hseen
        have HB := Lib.hid hB
        clear hseen hB
        by_cases hlt : k < len
        · have hin := HALL.out _ (HL.out.mem hlt)
          have hnt := nodup_take HND.out (k := k) (by have := HZ.out; omega)
          have hts := take_snoc_int ls k (by have := HZ.out; omega)
          have hnx := Ro.next_in ls k (by have := HZ.out; omega)
          obtain ⟨z, hz⟩ : ∃ z, ls.getD k 0 = z := ⟨_, rfl⟩
          obtain ⟨ad, rfl, hcl⟩ := (HL.out.below HB.out).2 k hlt
          rw [hz] at hin hnt hts hnx hcl
          have HNX := Lib.hid hnx
          have HTS := Lib.hid hts
          have HNT := Lib.hid hnt
          obtain ⟨z0, z1⟩ := (Ro.inside_iff _ _ _).1 hin
          obtain ⟨j, rfl⟩ : ∃ j : Nat, z = j := ⟨z.toNat, by omega⟩
          have hj : j < 8 := by omega
          have hjm : (j : Int) < many := by omega
          clear hin hnt hts hnx hz
          go_wp2_with fail
          refine (next_any (some ad) len cap ls back up k _ (HL.out.below HB.out) hm).mono ?_
          rw [HNX.out]
          rintro e w5 ⟨rfl, hb5⟩
          have s0 := below_cell_of hb5 r0
          have s1 := below_cell_of hb5 r1
          have s2 := below_cell_of hb5 r2
          have hcl5 := below_cell_of hb5 hcl
          have hse := HS.out.below hb5 hsz
          have hsj := hse.1 j hj
          have hfj := hse.2 j hj
          rw [decide_eq_false HNT.out] at hsj
          have HSE := Lib.hid hse
          have HB5 := Lib.hid (below_on HB.out hb5)
          have hz5 := hb5.size
          clear hb5 hse r0 r1 r2 hcl
          go_wp2
          go_roundw
          case rel => exact ⟨k + 1, by omega, by go_num, by rw [HTS.out]; exact HSE.out.set j hj, cell_set_ne s0 (by dsimp only; omega), cell_set_ne s1 (by dsimp only; omega), cell_set_ne s2 (by dsimp only; omega), by simp; omega, below_set HB5.out (by dsimp only; omega) _⟩
          case measure => simp [intOf]; omega
        · obtain rfl : k = len := by omega
          have hn1 : Ro.next ls (k + b) = (0, false) := by
            obtain ⟨d, hd⟩ : ∃ d : Nat, (k : Int) + b = d := ⟨(k + b).toNat, by omega⟩
            rw [hd]
            exact Ro.next_out ls d (by have := HZ.out; omega)
          have hn2 : Ro.next ls (-1 - b) = (0, false) := by
            unfold Ro.next
            rw [if_neg (by rw [Ro.inside_iff]; omega)]
          have HN1 := Lib.hid hn1
          have HN2 := Lib.hid hn2
          clear hn1 hn2
          go_wp2_with fail
          refine (next_any a k cap ls back up (k + b) _ (HL.out.below HB.out) hm).mono ?_
          rw [HN1.out]
          rintro e w5 ⟨rfl, hb5⟩
          have s0 := below_cell_of hb5 r0
          have s1 := below_cell_of hb5 r1
          have s2 := below_cell_of hb5 r2
          have HB5 := Lib.hid (below_on HB.out hb5)
          clear hb5 r0 r1 r2
          go_wp2_with fail
          refine (next_any a k cap ls back up (-1 - b) _ (HL.out.below HB5.out) hm).mono ?_
          rw [HN2.out]
          rintro e w6 ⟨rfl, hb6⟩
          have HB6 := Lib.hid (below_on HB5.out hb6)
          clear hb6
          go_wp2
          go_ret
          exact ⟨rfl, HB6.out⟩
    · go_wp2
      go_ret
      exact ⟨rfl, HB4.out⟩
end Go.Proofs.Ytjjplcjinhcpiaa
