/- The statement RouteThrough: it returns true, whatever the input, and leaves what was in memory alone. -/
import Derived.Test.YtjjplcjinhcpiaaRoHead
namespace Go.Proofs.Ytjjplcjinhcpiaa
open Go.RowKit

theorem through_at {link : Int} {lss : List (List Int)} {i : Nat} (h : i < lss.length) (hm : link ∈ lss.getD i []) :
    (Ro.throughTo link lss i).length < (Ro.through link lss).length ∧ (Ro.through link lss).getD (Ro.throughTo link lss i).length 0 = (i : Int) := by
  obtain ⟨d, hd⟩ : ∃ d, lss.length = (i + 1) + d := ⟨lss.length - (i + 1), by omega⟩
  have e : ∃ rest, Ro.through link lss = Ro.throughTo link lss i ++ [(i : Int)] ++ rest := by
    refine ⟨(((List.range d).map ((i + 1) + ·)).filter fun i => decide (link ∈ lss.getD i [])).map Int.ofNat, ?_⟩
    rw [← Ro.throughTo_yes hm]
    unfold Ro.through
    rw [hd]
    unfold Ro.throughTo
    rw [List.range_add, List.filter_append, List.map_append]
  obtain ⟨rest, e⟩ := e
  rw [e]
  refine ⟨by simp, ?_⟩
  rw [List.getD_eq_getElem?_getD, List.append_assoc, List.getElem?_append_right (Nat.le_refl _), Nat.sub_self]
  rfl
theorem take_mem_succ (ls : List Int) (k : Nat) (hk : k < ls.length) (x : Int) : x ∈ ls.take (k + 1) ↔ x ∈ ls.take k ∨ x = ls.getD k 0 := by
  rw [List.take_add_one, List.getD_eq_getElem?_getD, List.getElem?_eq_getElem hk, List.mem_append]
  simp

set_option maxHeartbeats 4000000 in
set_option maxRecDepth 100000 in
theorem through_entry (a : Option Addr) (len cap : Nat) (ps : List PathV) (link : Int) (w : World) (hl : RdP w a len ps) (hm : (len : Int) ≤ 9223372036854775807) (_w1 : (Lit.int .i64 link).wf = true) :
    Calls Try.prog 5 #[.slice a len cap, .int .i64 link] w fun e w' => e = .returned (.bool true) ∧ Below w.heap.size w w' := by
  have HL := Lib.hid hl
  clear hl
  obtain ⟨f, hf⟩ : ∃ f, fewB len ps = f := ⟨_, rfl⟩
  have HF := Lib.hid hf
  clear hf
  go_enter Try.func5, Try.ntmps5
  go_wp2_with fail
  refine (head_ok _).mono ?_
  rintro e w1 ⟨rfl, hb1⟩
  have HB1 := Lib.hid hb1
  clear hb1
  go_wp2_with fail
  refine (few_any none 0 0 a len cap ps _ (HL.out.below HB1.out) hm).mono ?_
  rw [HF.out, show decide (0 ≤ 20) = true from rfl]
  rintro e w2 ⟨rfl, rfl⟩
  cases f with
  | false =>
    go_wp2
    go_ret
    exact ⟨rfl, HB1.out⟩
  | true =>
    have h40 : len ≤ 40 := by
      have := HF.out
      unfold fewB at this
      rw [Bool.and_eq_true] at this
      simpa using this.2
    go_wp2_with fail
    refine (through_any a len cap ps link _ (HL.out.below HB1.out) (by omega)).mono ?_
    rintro e w3 ⟨⟨A, n, c, rfl, hrd, hat⟩, hb3⟩
    have HB3 := Lib.hid (below_on HB1.out hb3)
    have hnl : (Ro.through link (ps.map PathV.ls)).length = n := hrd.1
    have hn40 : n ≤ 40 := by
      have := Ro.throughTo_length link (ps.map PathV.ls) (ps.map PathV.ls).length
      unfold Ro.through at hnl
      rw [hnl, List.length_map, HL.out.1] at this
      omega
    have HNL := Lib.hid hnl
    have HRD := Lib.hid hrd
    clear hrd hat hb3 hnl
    go_wp2
    go_loopw [7, 24] (fun v i wr => ∃ k : Nat, k ≤ len ∧ i = .int .i64 k ∧ v = .int .i64 ((Ro.throughTo link (ps.map PathV.ls) k).length : Nat) ∧ Below w3.heap.size w3 wr ∧ Below w.heap.size w wr) (fun _ i _ => len - (intOf i).toNat)
    case atStart => exact ⟨0, Nat.zero_le _, rfl, rfl, Below.refl _ _, HB3.out⟩
    case round =>
      obtain ⟨k, hk, rfl, rfl, hB3, hB⟩ := hrel
      have HB3' := Lib.hid hB3
      have HB := Lib.hid hB
      clear hB3 hB
      obtain ⟨m, hm'⟩ : ∃ m, (Ro.throughTo link (ps.map PathV.ls) k).length = m := ⟨_, rfl⟩
      rw [hm']
      have HM := Lib.hid hm'
      have htl := Ro.throughTo_length link (ps.map PathV.ls) k
      rw [hm'] at htl
      clear hm'
      by_cases hlt : k < len
      · obtain ⟨ad, rfl, c0, c1, c2, hin⟩ := (HL.out.below HB.out).2 k hlt
        have hkl : k < ps.length := by rw [HL.out.1]; exact hlt
        have hgd : (ps.map PathV.ls).getD k [] = (ps.getD k default).ls := by
          rw [List.getD_eq_getElem?_getD, List.getD_eq_getElem?_getD, List.getElem?_map, List.getElem?_eq_getElem hkl]
          rfl
        obtain ⟨p, hp⟩ : ∃ p, ps.getD k default = p := ⟨_, rfl⟩
        rw [hp] at c0 c1 c2 hin hgd
        obtain ⟨pa, pl, pc, pls, pb, pu⟩ := p
        have HIN := Lib.hid hin
        have HGD := Lib.hid hgd
        have hpm := hin.2
        simp only at c0 c1 c2 hpm
        clear hp hin hgd hkl
        go_wp2
        go_loopw [10, 32] (fun h i wv => ∃ q : Nat, q ≤ pl ∧ i = .int .i64 q ∧ h = .bool (decide (link ∈ pls.take q)) ∧ wv.cell? ⟨wr.heap.size, 0, none⟩ = some (.slice pa pl pc) ∧ wv.cell? ⟨wr.heap.size, 1, none⟩ = some (.int .i64 pb) ∧ wv.cell? ⟨wr.heap.size, 2, none⟩ = some (.bool pu) ∧ Below wr.heap.size wr wv) (fun _ i _ => pl - (intOf i).toNat)
        case atStart => exact ⟨0, Nat.zero_le _, rfl, rfl, by go_simp, by go_simp, by go_simp, below_new (Below.refl _ _) _⟩
        case round =>
          obtain ⟨q, hq, rfl, rfl, r0, r1, r2, hBV⟩ := hrel
          have HBV := Lib.hid hBV
          clear hBV
          have hpz : pls.length = pl := HIN.out.1.1
          by_cases hql : q < pl
          · have hnx := Ro.next_in pls q (by omega)
            have hmem := take_mem_succ pls q (by omega) link
            obtain ⟨z, hz⟩ : ∃ z, pls.getD q 0 = z := ⟨_, rfl⟩
            rw [hz] at hnx hmem
            have HNX := Lib.hid hnx
            have HMEM := Lib.hid hmem
            obtain ⟨h, hh⟩ : ∃ h : Bool, decide (link ∈ pls.take q) = h := ⟨_, rfl⟩
            rw [hh]
            have HH := Lib.hid hh
            clear hnx hmem hz hh hpz
            go_wp2_with fail
            refine (next_any pa pl pc pls pb pu q _ (HIN.out.1.below HBV.out) hpm).mono ?_
            rw [HNX.out]
            rintro e w5 ⟨rfl, hb5⟩
            have s0 := below_cell_of hb5 r0
            have s1 := below_cell_of hb5 r1
            have s2 := below_cell_of hb5 r2
            have HB5 := Lib.hid (below_on HBV.out hb5)
            clear hb5 r0 r1 r2
            cases h with
            | true =>
              go_wp2
              go_roundw
              case rel => exact ⟨q + 1, by omega, by go_num, by rw [decide_eq_true (HMEM.out.2 (.inl (of_decide_eq_true HH.out)))], s0, s1, s2, HB5.out⟩
              case measure => simp [intOf]; omega
            | false =>
              by_cases hzl : z = link
              · subst hzl
                go_wp2
                go_roundw
                case rel => exact ⟨q + 1, by omega, by go_num, by rw [decide_eq_true (HMEM.out.2 (Or.inr (by first | rfl | trivial)))], s0, s1, s2, HB5.out⟩
                case measure => simp [intOf]; omega
              · go_wp2
                go_roundw
                case rel => exact ⟨q + 1, by omega, by go_num, by rw [decide_eq_false (fun hx => (HMEM.out.1 hx).elim (fun h1 => of_decide_eq_false HH.out h1) (fun h1 => hzl h1.symm))]; simp [hzl], s0, s1, s2, HB5.out⟩
                case measure => simp [intOf]; omega
          · obtain rfl : q = pl := by omega
            rw [List.take_of_length_le (by omega)]
            have HB2 := Lib.hid (below_on HB.out HBV.out)
            have HB6 := Lib.hid (below_on HB3'.out HBV.out)
            clear r0 r1 r2 hpz
            by_cases hmem : link ∈ pls
            · rw [decide_eq_true hmem]
              obtain ⟨t1, t2⟩ := through_at (link := link) (lss := ps.map PathV.ls) (i := k) (by rw [List.length_map, HL.out.1]; exact hlt) (by rw [HGD.out]; exact hmem)
              have hy := Ro.throughTo_yes (link := link) (lss := ps.map PathV.ls) (k := k) (by rw [HGD.out]; exact hmem)
              rw [HM.out, HNL.out] at t1
              rw [HM.out] at t2
              obtain ⟨bd, rfl, hcl⟩ := (HRD.out.below HB6.out).2 m t1
              rw [t2] at hcl
              have HY := Lib.hid hy
              clear hmem t2 hy
              go_wp2
              go_roundw
              case rel => exact ⟨k + 1, by omega, by go_num, by rw [HY.out, List.length_append, HM.out]; rfl, HB6.out, HB2.out⟩
              case measure => simp [intOf]; omega
            · rw [decide_eq_false hmem]
              have hy := Ro.throughTo_no (link := link) (lss := ps.map PathV.ls) (k := k) (by rw [HGD.out]; exact hmem)
              have HY := Lib.hid hy
              clear hmem hy
              go_wp2
              go_roundw
              case rel => exact ⟨k + 1, by omega, by go_num, by rw [HY.out, HM.out], HB6.out, HB2.out⟩
              case measure => simp [intOf]; omega
      · obtain rfl : k = len := by omega
        have hmn : m = n := by
          rw [← HM.out, ← HNL.out]
          unfold Ro.through
          rw [List.length_map, HL.out.1]
        subst hmn
        go_wp2
        go_ret
        exact ⟨rfl, HB.out⟩
end Go.Proofs.Ytjjplcjinhcpiaa
