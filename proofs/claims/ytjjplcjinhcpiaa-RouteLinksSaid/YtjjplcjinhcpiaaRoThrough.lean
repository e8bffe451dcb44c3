/- Which paths use a link: the walks of the library's two functions and of package route's. -/
import Derived.Test.YtjjplcjinhcpiaaRoCheck
namespace Go.Proofs.Ytjjplcjinhcpiaa
open Go.RowKit

theorem info_int : (Try.prog.info? 3).map (fun i => (i.zero, i.size, i.bytes)) = some (some (.int .i64 0), 1, 8) := by kernel_rfl

set_option maxRecDepth 100000 in
theorem index_any (a : Option Addr) (len cap : Nat) (ls : List Int) (v : Int) (w : World) (hm : (len : Int) ≤ 9223372036854775807) (hl : RdI w .i64 a len ls) :
    Calls Try.prog 31 #[.slice a len cap, .int .i64 v] w fun e w' => (∃ r : Int, e = .returned (.int .i64 r) ∧ (0 ≤ r ↔ v ∈ ls)) ∧ w' = w := by
  have HL := Lib.hid hl
  clear hl
  go_enter Try.func31, Try.ntmps31
  go_wp2
  go_loopw [8] (fun i wr => ∃ k : Nat, k ≤ len ∧ i = .int .i64 k ∧ (∀ j, j < k → ¬ ls.getD j 0 = v) ∧ wr = w) (fun i _ => len - (intOf i).toNat)
  case atStart => exact ⟨0, Nat.zero_le _, rfl, fun j hj => absurd hj (Nat.not_lt_zero _), rfl⟩
  case round =>
    obtain ⟨k, hk, rfl, hno, rfl⟩ := hrel
    have HN := Lib.hid hno
    clear hno
    by_cases hlt : k < len
    · obtain ⟨ad, rfl, hc⟩ := HL.out.2 k hlt
      obtain ⟨z, hz⟩ : ∃ z, ls.getD k 0 = z := ⟨_, rfl⟩
      rw [hz] at hc
      have HZ := Lib.hid hz
      clear hz
      by_cases hv : v = z
      · subst hv
        have hmem : v ∈ ls := by rw [← HZ.out]; exact HL.out.mem hlt
        have HM := Lib.hid hmem
        clear hmem
        go_wp2
        go_ret
        exact ⟨⟨k, rfl, fun _ => HM.out, fun _ => by omega⟩, rfl⟩
      · go_wp2
        go_roundw
        case rel => exact ⟨k + 1, by omega, by go_num, (fun j hj => by
          by_cases e : j = k
          · subst e; rw [HZ.out]; exact fun h => hv h.symm
          · exact HN.out j (by omega)), trivial⟩
        case measure => simp [intOf]; omega
    · obtain rfl : k = len := by omega
      have hnm : ¬ v ∈ ls := by
        intro h
        obtain ⟨j, hj, e⟩ := List.getElem_of_mem h
        refine HN.out j (by rw [← HL.out.1]; exact hj) ?_
        rw [List.getD_eq_getElem?_getD, List.getElem?_eq_getElem hj]
        exact e
      have HM := Lib.hid hnm
      clear hnm
      go_wp2
      go_ret
      exact ⟨⟨-1, rfl, fun h => absurd h (by omega), fun h => absurd h HM.out⟩, rfl⟩
theorem contains_any (a : Option Addr) (len cap : Nat) (ls : List Int) (v : Int) (w : World) (hm : (len : Int) ≤ 9223372036854775807) (hl : RdI w .i64 a len ls) :
    Calls Try.prog 28 #[.slice a len cap, .int .i64 v] w fun e w' => e = .returned (.bool (decide (v ∈ ls))) ∧ w' = w := by
  have HL := Lib.hid hl
  clear hl
  go_enter Try.func28, Try.ntmps28
  go_wp2_with fail
  refine (index_any a len cap ls v _ hm HL.out).mono ?_
  rintro e w1 ⟨⟨r, rfl, hr⟩, rfl⟩
  have HR := Lib.hid hr
  clear hr
  go_wp2
  go_ret
  exact ⟨ret_bool (decide_eq_decide.2 HR.out), rfl⟩

set_option maxRecDepth 100000 in
set_option maxHeartbeats 4000000 in
theorem through_any (a : Option Addr) (len cap : Nat) (ps : List PathV) (link : Int) (w : World) (hl : RdP w a len ps) (h100 : len ≤ 100) :
    Calls Try.prog 19 #[.slice a len cap, .int .i64 link] w fun e w' => (∃ A n c, e = .returned (.slice A n c) ∧ RdI w' .i64 A n (Ro.through link (ps.map PathV.ls)) ∧ ∀ ad, A = some ad → w.heap.size ≤ ad.block) ∧ Below w.heap.size w w' := by
  have HL := Lib.hid hl
  clear hl
  obtain ⟨i0, hi, hz0, hz1, hz2⟩ := info_parts info_int
  go_enter Try.func19, Try.ntmps19
  go_wp2
  go_loopw [5, 10] (fun v i wr => ∃ k : Nat, k ≤ len ∧ i = .int .i64 k ∧ wr.ownsRow w.heap.size 3 1 v (Ro.throughTo link (ps.map PathV.ls) k).length ((Ro.throughTo link (ps.map PathV.ls) k).map (Value.int .i64)) ∧ Below w.heap.size w wr) (fun _ i _ => len - (intOf i).toNat)
  case atStart => exact ⟨0, Nat.zero_le _, rfl, World.ownsRow_nil _ _ _ _, Below.refl _ _⟩
  case round =>
    obtain ⟨k, hk, rfl, hown, hB⟩ := hrel
    by_cases hlt : k < len
    · obtain ⟨ad, rfl, c0, c1, c2, hin⟩ := (HL.out.below hB).2 k hlt
      have hgd : (ps.map PathV.ls).getD k [] = (ps.getD k default).ls := by
        have hkl : k < ps.length := by rw [HL.out.1]; exact hlt
        rw [List.getD_eq_getElem?_getD, List.getD_eq_getElem?_getD, List.getElem?_map, List.getElem?_eq_getElem hkl]
        rfl
      obtain ⟨p, hp⟩ : ∃ p, ps.getD k default = p := ⟨_, rfl⟩
      rw [hp] at c0 c1 c2 hin hgd
      have HIN := Lib.hid hin
      have HGD := Lib.hid hgd
      obtain ⟨pa, pl, pc, pls, pb, pu⟩ := p
      have htl := Ro.throughTo_length link (ps.map PathV.ls) k
      simp only at c0 c1 c2
      have HOWN := Lib.hid hown
      have HB := Lib.hid hB
      have hsz := hB.size
      clear hp hin hgd hown hB
      go_wp2_with fail
      refine (contains_any pa pl pc pls link _ HIN.out.2 (HIN.out.1.below (below_new (Below.refl _ _) _))).mono ?_
      rintro e w1 ⟨rfl, rfl⟩
      by_cases hmem : link ∈ pls
      · have HTS := Lib.hid (Ro.throughTo_yes (link := link) (lss := ps.map PathV.ls) (k := k) (by rw [HGD.out]; exact hmem))
        rw [decide_eq_true hmem]
        clear hmem
        obtain ⟨m, hm⟩ : ∃ m, (Ro.throughTo link (ps.map PathV.ls) k).length = m := ⟨_, rfl⟩
        have HM := Lib.hid hm
        rw [hm] at htl
        have hown2 := HOWN.out
        rw [hm] at hown2
        have HOWN2 := Lib.hid hown2
        clear hm hown2
        go_wp2_with (at_builtin; refine wpList_append_own _ rfl _ _ 24 rfl w.heap.size 3 i0 (.int .i64 0) 1 8 Try.underlying24 hi hz0 hz1 hz2 rfl (by decide) _ _ _ rfl ((HOWN2.out.alloc _).alloc _) ⟨wr.heap.size + 1, 0, none⟩ 1 1 [.int .i64 k] rfl rfl ?c1 ?c2 ?c3 ?c4 ?c5 ?_)
        case c1 =>
          intro j u hj
          match j, hj with
          | 0, hj => simp at hj; subst hj; simp [Addr.add]
        case c2 => intro u hu; simp at hu; subst hu; rfl
        case c3 => unfold maxLen; omega
        case c4 => omega
        case c5 => simp; omega
        intro v' w2 hown' hgrow _
        have HO := Lib.hid hown'
        have HG := Lib.hid hgrow
        clear hown' hgrow
        go_wp2
        go_roundw
        case rel =>
          refine ⟨k + 1, by omega, by go_num, ?_, ?_⟩
          · rw [HTS.out, List.length_append, HM.out, List.map_append]
            exact HO.out
          · exact ((below_new (below_new HB.out _) _).grown HG.out (by simp; omega) (own_base' HOWN2.out))
        case measure => simp [intOf]; omega
      · have HTS := Lib.hid (Ro.throughTo_no (link := link) (lss := ps.map PathV.ls) (k := k) (by rw [HGD.out]; exact hmem))
        rw [decide_eq_false hmem]
        clear hmem
        go_wp2
        go_roundw
        case rel => exact ⟨k + 1, by omega, by go_num, by rw [HTS.out]; exact HOWN.out.alloc _, below_new HB.out _⟩
        case measure => simp [intOf]; omega
    · obtain rfl : k = len := by omega
      obtain ⟨A, c, rfl⟩ := own_slice hown
      have htl : Ro.throughTo link (ps.map PathV.ls) k = Ro.through link (ps.map PathV.ls) := by unfold Ro.through; rw [List.length_map, HL.out.1]
      have HR := Lib.hid (RdI.of_own hown)
      have HTL := Lib.hid htl
      have HB := Lib.hid hB
      have hat : ∀ ad, A = some ad → w.heap.size ≤ ad.block := fun ad e => own_base' hown _ (by rw [e]; rfl)
      have HAT := Lib.hid hat
      clear hown hB htl hat
      go_wp2
      go_ret
      exact ⟨⟨A, _, c, rfl, by rw [← HTL.out]; exact HR.out, HAT.out⟩, HB.out⟩
end Go.Proofs.Ytjjplcjinhcpiaa
