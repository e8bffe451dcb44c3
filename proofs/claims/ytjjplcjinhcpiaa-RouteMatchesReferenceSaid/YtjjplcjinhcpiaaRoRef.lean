/- The reference of package route: what is wrong with a path and with paths, which paths use a link, what a trip takes. -/
import Derived.Test.YtjjplcjinhcpiaaRoSmall
namespace Go.Proofs.Ytjjplcjinhcpiaa
open Go.RowKit

theorem nodup_snoc {ls : List Int} {k : Nat} (hk : k < ls.length) (h : (ls.take k).Nodup) (hn : ∀ j, j < k → ¬ ls.getD j 0 = ls.getD k 0) : (ls.take (k + 1)).Nodup := by
  have e : ls.take (k + 1) = ls.take k ++ [ls.getD k 0] := by
    rw [List.take_add_one, List.getD_eq_getElem?_getD, List.getElem?_eq_getElem hk]
    rfl
  rw [e, List.nodup_append]
  refine ⟨h, by simp, fun x hx y hy e2 => ?_⟩
  rw [List.mem_singleton.1 hy] at e2
  obtain ⟨j, hj, e3⟩ := List.getElem_of_mem hx
  rw [List.length_take] at hj
  refine hn j (by omega) ?_
  rw [← e2, ← e3, List.getElem_take, List.getD_eq_getElem?_getD, List.getElem?_eq_getElem (by omega)]
  rfl
theorem not_nodup {ls : List Int} {j k : Nat} (hj : j < k) (hk : k < ls.length) (h : ls.getD j 0 = ls.getD k 0) : ¬ ls.Nodup := by
  intro hn
  rw [List.getD_eq_getElem?_getD, List.getD_eq_getElem?_getD, List.getElem?_eq_getElem (by omega), List.getElem?_eq_getElem hk] at h
  exact (List.pairwise_iff_getElem.1 hn) j k (by omega) hk hj h

set_option maxRecDepth 100000 in
set_option maxHeartbeats 4000000 in
theorem rone_any (many : Int) (a : Option Addr) (len cap : Nat) (ls : List Int) (back : Int) (up : Bool) (w : World) (hl : RdI w .i64 a len ls) (hm : (len : Int) ≤ 9223372036854775807) :
    Calls Try.prog 27 #[.int .i64 many, .agg #[.slice a len cap, .int .i64 back, .bool up]] w fun e w' => e = .returned (.int .i64 (Ro.wrong many ls back)) ∧ Below w.heap.size w w' := by
  have HL := Lib.hid hl
  have hz := hl.1
  have HZ := Lib.hid hz
  clear hl hz
  go_enter Try.func27, Try.ntmps27
  by_cases hs : len < 1
  · have HW := Lib.hid (Ro.wrong_long (many := many) (ls := ls) (back := back) (by rw [Ro.inside_no]; have := HZ.out; omega))
    go_wp2
    go_ret
    exact ⟨by rw [HW.out]; rfl, below_new (Below.refl _ _) _⟩
  by_cases hg : 6 < len
  · have HW := Lib.hid (Ro.wrong_long (many := many) (ls := ls) (back := back) (by rw [Ro.inside_no]; have := HZ.out; omega))
    go_wp2
    go_ret
    exact ⟨by rw [HW.out]; rfl, below_new (Below.refl _ _) _⟩
  have HI : RowKit.Hid (Ro.inside ls.length 1 6 = true) := Lib.hid (by rw [Ro.inside_iff]; have := HZ.out; omega)
  go_wp2
  go_loopw [5] (fun i wr => ∃ k : Nat, k ≤ len ∧ i = .int .i64 k ∧ (∀ j, j < k → Ro.inside (ls.getD j 0) 0 (many - 1) = true) ∧ wr = w.alloc (.cells #[.slice a len cap, .int .i64 back, .bool up] 26)) (fun i _ => len - (intOf i).toNat)
  case atStart => exact ⟨0, Nat.zero_le _, rfl, fun j hj => absurd hj (Nat.not_lt_zero _), rfl⟩
  case round =>
    obtain ⟨k, hk, rfl, hall, rfl⟩ := hrel
    have HA := Lib.hid hall
    clear hall
    by_cases hlt : k < len
    · obtain ⟨ad, rfl, hc⟩ := HL.out.2 k hlt
      have hmem := HL.out.mem hlt
      obtain ⟨z, hzz⟩ : ∃ z, ls.getD k 0 = z := ⟨_, rfl⟩
      rw [hzz] at hc hmem
      have HZZ := Lib.hid hzz
      have HMEM := Lib.hid hmem
      have hca : (w.alloc (.cells #[.slice (some ad) len cap, .int .i64 back, .bool up] 26)).cell? (ad.add k) = some (.int .i64 z) := below_cell_of (below_new (Below.refl _ _) _) hc
      clear hc hzz hmem
      by_cases h0 : z < 0
      · have HW := Lib.hid (Ro.wrong_none (many := many) (ls := ls) (back := back) HI.out ⟨z, HMEM.out, by rw [Ro.inside_no]; omega⟩)
        go_wp2
        go_ret
        exact ⟨by rw [HW.out]; rfl, below_new (Below.refl _ _) _⟩
      · by_cases h1 : many ≤ z
        · have HW := Lib.hid (Ro.wrong_none (many := many) (ls := ls) (back := back) HI.out ⟨z, HMEM.out, by rw [Ro.inside_no]; omega⟩)
          go_wp2
          go_ret
          exact ⟨by rw [HW.out]; rfl, below_new (Below.refl _ _) _⟩
        · go_wp2
          go_roundw
          case rel => exact ⟨k + 1, by omega, by go_num, (fun j hj => by
            by_cases e : j = k
            · subst e; rw [HZZ.out, Ro.inside_iff]; omega
            · exact HA.out j (by omega)), by first | rfl | trivial⟩
          case measure => simp [intOf]; omega
    · obtain rfl : k = len := by omega
      have hw := Ro.wrong_all (many := many) (ls := ls) (back := back) HI.out (fun x hx => by
        obtain ⟨j, hj, e⟩ := List.getElem_of_mem hx
        have := HA.out j (by rw [HZ.out] at hj; exact hj)
        rwa [List.getD_eq_getElem?_getD, List.getElem?_eq_getElem hj, Option.getD_some, e] at this)
      have HW := Lib.hid hw
      clear hw
      go_wp2
      go_loopw [6] (fun i wr => ∃ q : Nat, q ≤ k ∧ i = .int .i64 q ∧ (ls.take q).Nodup ∧ wr.cell? ⟨w.heap.size, 0, none⟩ = some (.slice a k cap) ∧ wr.cell? ⟨w.heap.size, 1, none⟩ = some (.int .i64 back) ∧ Below w.heap.size w wr) (fun i _ => k - (intOf i).toNat)
      case atStart => exact ⟨0, Nat.zero_le _, rfl, by simp, by go_simp, by go_simp, below_new (Below.refl _ _) _⟩
      case round =>
        obtain ⟨q, hq, rfl, hnd, p0, p1, hB⟩ := hrel
        have HND := Lib.hid hnd
        have HB := Lib.hid hB
        clear hnd hB
        by_cases hqk : q < k
        · obtain ⟨ad, rfl, hc⟩ := (HL.out.below HB.out).2 q hqk
          obtain ⟨z, hzz⟩ : ∃ z, ls.getD q 0 = z := ⟨_, rfl⟩
          rw [hzz] at hc
          have HZZ := Lib.hid hzz
          clear hzz
          go_wp2
          go_loopw [7] (fun i wv => ∃ j : Nat, j ≤ q ∧ i = .int .i64 j ∧ (∀ i, i < j → ¬ ls.getD i 0 = z) ∧ wv.cell? ⟨w.heap.size, 0, none⟩ = some (.slice (some ad) k cap) ∧ wv.cell? ⟨w.heap.size, 1, none⟩ = some (.int .i64 back) ∧ wv.cell? (ad.add q) = some (.int .i64 z) ∧ Below w.heap.size w wv) (fun i _ => q - (intOf i).toNat)
          case atStart => exact ⟨0, Nat.zero_le _, rfl, fun j hj => absurd hj (Nat.not_lt_zero _), p0, p1, hc, HB.out⟩
          case round =>
            obtain ⟨j, hj, rfl, hne, r0, r1, hcq, hBV⟩ := hrel
            have HNE := Lib.hid hne
            have HBV := Lib.hid hBV
            clear hne hBV
            by_cases hjq : j < q
            · have hjk : j < k := by omega
              obtain ⟨bd, hbe, hcj⟩ := (HL.out.below HBV.out).2 j hjk
              injection hbe with hbe
              subst hbe
              obtain ⟨y, hyy⟩ : ∃ y, ls.getD j 0 = y := ⟨_, rfl⟩
              rw [hyy] at hcj
              have HYY := Lib.hid hyy
              clear hyy
              go_wp2
              refine wp_region_held_drew (S := (fun W => W.cell? ⟨w.heap.size, 0, none⟩ = some (.slice (some ad) k cap) ∧ W.cell? (ad.add q) = some (.int .i64 z) ∧ W.cell? (ad.add j) = some (.int .i64 y))) (by kernel_rfl) ?_ (fun hHeld => ?_)
              · exact ⟨r0, hcq, hcj⟩
              refine wpAnyH_take (i := 0) (v := ?_) rfl (by kernel_rfl) (by kernel_rfl) (by kernel_rfl) (fun _ _ _ h => h) (Or.inl ⟨by rfl, ?_⟩) hHeld ?_
              rotate_left
              · intro wS hSw; obtain ⟨hS0, hS1, hS2⟩ := hSw; go_simp; try with_reducible rfl
              try go_simp
              refine wpAnyH_take (i := 1) (v := ?_) rfl (by kernel_rfl) (by kernel_rfl) (by kernel_rfl) (fun _ _ _ h => h) (Or.inl ⟨by rfl, ?_⟩) hHeld ?_
              rotate_left
              · intro wS hSw; obtain ⟨hS0, hS1, hS2⟩ := hSw; go_simp; try with_reducible rfl
              try go_simp
              refine wpAnyH_take (i := 2) (v := ?_) rfl (by kernel_rfl) (by kernel_rfl) (by kernel_rfl) (fun _ _ _ h => h) (Or.inl ⟨by rfl, ?_⟩) hHeld ?_
              rotate_left
              · intro wS hSw; obtain ⟨hS0, hS1, hS2⟩ := hSw; go_simp; try with_reducible rfl
              try go_simp
              refine wpAnyH_take (i := 3) (v := ?_) rfl (by kernel_rfl) (by kernel_rfl) (by kernel_rfl) (fun _ _ _ h => h) (Or.inl ⟨by rfl, ?_⟩) hHeld ?_
              rotate_left
              · intro wS hSw; obtain ⟨hS0, hS1, hS2⟩ := hSw; go_simp; try with_reducible rfl
              try go_simp
              refine wpAnyH_take (i := 4) (v := ?_) rfl (by kernel_rfl) (by kernel_rfl) (by kernel_rfl) (fun _ _ _ h => h) (Or.inl ⟨by rfl, ?_⟩) hHeld ?_
              rotate_left
              · intro wS hSw; obtain ⟨hS0, hS1, hS2⟩ := hSw; go_simp; try with_reducible rfl
              try go_simp
              refine wpAnyH_take (i := 5) (v := ?_) rfl (by kernel_rfl) (by kernel_rfl) (by kernel_rfl) (fun _ _ _ h => h) (Or.inl ⟨by rfl, ?_⟩) hHeld ?_
              rotate_left
              · intro wS hSw; obtain ⟨hS0, hS1, hS2⟩ := hSw; go_simp; try with_reducible rfl
              try go_simp
              refine wpAnyH_take (i := 6) (v := ?_) rfl (by kernel_rfl) (by kernel_rfl) (by kernel_rfl) (fun _ _ _ h => h) (Or.inl ⟨by rfl, ?_⟩) hHeld ?_
              rotate_left
              · intro wS hSw; obtain ⟨hS0, hS1, hS2⟩ := hSw; go_simp; try with_reducible rfl
              try go_simp
              refine wpAnyH_take (i := 7) (v := ?_) rfl (by kernel_rfl) (by kernel_rfl) (by kernel_rfl) (fun _ _ _ h => h) (Or.inl ⟨by rfl, ?_⟩) hHeld ?_
              rotate_left
              · intro wS hSw; obtain ⟨hS0, hS1, hS2⟩ := hSw; go_simp; try with_reducible rfl
              try go_simp
              refine wpAnyH_take (i := 8) (v := ?_) rfl (by kernel_rfl) (by kernel_rfl) (by kernel_rfl) (fun _ _ _ h => h) (Or.inl ⟨by rfl, ?_⟩) hHeld ?_
              rotate_left
              · intro wS hSw; obtain ⟨hS0, hS1, hS2⟩ := hSw; go_simp; try with_reducible rfl
              try go_simp
              refine wpAnyH_take (i := 9) (v := ?_) rfl (by kernel_rfl) (by kernel_rfl) (by kernel_rfl) (fun _ _ _ h => h) (Or.inl ⟨by rfl, ?_⟩) hHeld ?_
              rotate_left
              · intro wS hSw; obtain ⟨hS0, hS1, hS2⟩ := hSw; go_simp; try with_reducible rfl
              try go_simp
              refine wpAnyH_take (i := 10) (v := ?_) rfl (by kernel_rfl) (by kernel_rfl) (by kernel_rfl) (fun _ _ _ h => h) (Or.inl ⟨by rfl, ?_⟩) hHeld ?_
              rotate_left
              · intro wS hSw; obtain ⟨hS0, hS1, hS2⟩ := hSw; go_simp; try with_reducible rfl
              try go_simp
              refine wpAnyH_done (by kernel_rfl) ?_ _
              clear hHeld
              by_cases hzy : z = y
              · have HX := Lib.hid (HW.out.trans (if_neg (not_nodup (ls := ls) hjq (by rw [HZ.out]; exact hqk) (by rw [HYY.out, HZZ.out, hzy]))))
                go_wp2
                go_ret
                exact ⟨by rw [HX.out]; rfl, below_drawn HBV.out⟩
              · go_wp2
                go_roundw
                case rel => exact ⟨j + 1, by omega, by go_num, (fun i hi => by
                  by_cases e : i = j
                  · subst e; rw [HYY.out]; exact fun h => hzy h.symm
                  · exact HNE.out i (by omega)), r0, r1, hcq, below_drawn HBV.out⟩
                case measure => simp [intOf]; omega
            · obtain rfl : j = q := by omega
              have hn2 := nodup_snoc (ls := ls) (k := j) (by rw [HZ.out]; exact hqk) HND.out (fun i hi => by rw [HZZ.out]; exact HNE.out i hi)
              have HN2 := Lib.hid hn2
              clear hn2
              go_wp2
              go_roundw
              case rel => exact ⟨j + 1, by omega, by go_num, HN2.out, r0, r1, HBV.out⟩
              case measure => simp [intOf]; omega
        · obtain rfl : q = k := by omega
          have hnd := HND.out
          rw [List.take_of_length_le (by rw [HZ.out]; omega)] at hnd
          have HX := Lib.hid (HW.out.trans (if_pos hnd))
          clear hnd
          by_cases b0 : back < 0
          · have HY := Lib.hid (HX.out.trans (if_neg (by rw [Ro.inside_iff]; omega)))
            go_wp2
            go_ret
            exact ⟨by rw [HY.out]; rfl, HB.out⟩
          · by_cases b1 : 1000000 < back
            · have HY := Lib.hid (HX.out.trans (if_neg (by rw [Ro.inside_iff]; omega)))
              go_wp2
              go_ret
              exact ⟨by rw [HY.out]; rfl, HB.out⟩
            · have HY := Lib.hid (HX.out.trans (if_pos (by rw [Ro.inside_iff]; omega)))
              go_wp2
              go_ret
              exact ⟨by rw [HY.out]; rfl, HB.out⟩
end Go.Proofs.Ytjjplcjinhcpiaa
