/- The reference of package route: paths checked, the paths that use a link, the time of a transmission. -/
import Derived.Test.YtjjplcjinhcpiaaRoRef
namespace Go.Proofs.Ytjjplcjinhcpiaa
open Go.RowKit

set_option maxRecDepth 100000 in
set_option maxHeartbeats 4000000 in
theorem rcheck_any (many : Int) (a : Option Addr) (len cap : Nat) (ps : List PathV) (w : World) (hl : RdP w a len ps) (hm : (len : Int) ≤ 9223372036854775807) :
    Calls Try.prog 17 #[.int .i64 many, .slice a len cap] w fun e w' => e = .returned (.int .i64 (Ro.check many (ps.map PathV.plain))) ∧ Below w.heap.size w w' := by
  have HL := Lib.hid hl
  clear hl
  go_enter Try.func17, Try.ntmps17
  by_cases h0 : many < 0
  · have HC : RowKit.Hid (Ro.check many (ps.map PathV.plain) = 1) := Lib.hid (by unfold Ro.check; rw [if_neg (by rw [Ro.inside_iff]; omega)])
    go_wp2
    go_ret
    exact ⟨by rw [HC.out]; rfl, Below.refl _ _⟩
  by_cases h8 : 8 < many
  · have HC : RowKit.Hid (Ro.check many (ps.map PathV.plain) = 1) := Lib.hid (by unfold Ro.check; rw [if_neg (by rw [Ro.inside_iff]; omega)])
    go_wp2
    go_ret
    exact ⟨by rw [HC.out]; rfl, Below.refl _ _⟩
  have hi : Ro.inside many 0 8 = true := by rw [Ro.inside_iff]; omega
  have HI := Lib.hid hi
  clear hi
  by_cases h16 : 16 < len
  · have HC : RowKit.Hid (Ro.check many (ps.map PathV.plain) = 2) := Lib.hid (by unfold Ro.check; rw [if_pos HI.out, if_neg (by rw [List.length_map, HL.out.1]; omega)])
    go_wp2
    go_ret
    exact ⟨by rw [HC.out]; rfl, Below.refl _ _⟩
  · have HC : RowKit.Hid (Ro.check many (ps.map PathV.plain) = Ro.firstErr many (ps.map PathV.plain)) := Lib.hid (by unfold Ro.check; rw [if_pos HI.out, if_pos (by rw [List.length_map, HL.out.1]; omega)])
    go_wp2
    go_loopw [5] (fun i wr => ∃ k : Nat, k ≤ len ∧ i = .int .i64 k ∧ Ro.firstErr many (ps.map PathV.plain) = Ro.firstErr many ((ps.drop k).map PathV.plain) ∧ Below w.heap.size w wr) (fun i _ => len - (intOf i).toNat)
    case atStart => exact ⟨0, Nat.zero_le _, rfl, rfl, Below.refl _ _⟩
    case round =>
      obtain ⟨k, hk, rfl, he, hB⟩ := hrel
      have HE := Lib.hid he
      have HB := Lib.hid hB
      clear he hB
      by_cases hlt : k < len
      · obtain ⟨ad, rfl, c0, c1, c2, hin⟩ := (HL.out.below HB.out).2 k hlt
        obtain ⟨p, hp⟩ : ∃ p, ps.getD k default = p := ⟨_, rfl⟩
        rw [hp] at c0 c1 c2 hin
        have HP := Lib.hid hp
        have HIN := Lib.hid hin
        obtain ⟨pa, pl, pc, pls, pb, pu⟩ := p
        simp only at c0 c1 c2
        clear hp hin
        have hdr : ps.drop k = PathV.mk pa pl pc pls pb pu :: ps.drop (k + 1) := by
          have hkl : k < ps.length := by rw [HL.out.1]; exact hlt
          rw [List.drop_eq_getElem_cons hkl, ← HP.out, List.getD_eq_getElem?_getD, List.getElem?_eq_getElem hkl]
          rfl
        have HD : RowKit.Hid (Ro.firstErr many ((ps.drop k).map PathV.plain) = if Ro.wrong many pls pb = 0 then Ro.firstErr many ((ps.drop (k + 1)).map PathV.plain) else Ro.wrong many pls pb) := Lib.hid (by rw [hdr]; rfl)
        clear hdr
        go_wp2_with fail
        refine (rone_any many pa pl pc pls pb pu _ HIN.out.1 HIN.out.2).mono ?_
        rintro e w2 ⟨rfl, hb⟩
        have HB2 := Lib.hid (below_on HB.out hb)
        by_cases h0 : Ro.wrong many pls pb = 0
        · have HF := Lib.hid (HE.out.trans (HD.out.trans (if_pos h0)))
          rw [h0]
          clear hb h0
          go_wp2
          go_roundw
          case rel => exact ⟨k + 1, by omega, by go_num, HF.out, HB2.out⟩
          case measure => simp [intOf]; omega
        · have HF := Lib.hid (HC.out.trans (HE.out.trans (HD.out.trans (if_neg h0))))
          clear hb
          obtain ⟨x, hx⟩ : ∃ x, Ro.wrong many pls pb = x := ⟨_, rfl⟩
          rw [hx] at h0 HF ⊢
          clear hx
          go_wp2
          go_ret
          exact ⟨by rw [HF.out]; rfl, HB2.out⟩
      · have HF : RowKit.Hid (Ro.check many (ps.map PathV.plain) = 0) := Lib.hid (HC.out.trans (HE.out.trans (by rw [List.drop_of_length_le (by rw [HL.out.1]; omega)]; rfl)))
        go_wp2
        go_ret
        exact ⟨by rw [HF.out]; rfl, HB.out⟩

set_option maxRecDepth 100000 in
theorem rhas_any (a : Option Addr) (len cap : Nat) (ls : List Int) (back : Int) (up : Bool) (v : Int) (w : World) (hm : (len : Int) ≤ 9223372036854775807) (hl : RdI w .i64 a len ls) :
    Calls Try.prog 29 #[.agg #[.slice a len cap, .int .i64 back, .bool up], .int .i64 v] w fun e w' => e = .returned (.bool (decide (v ∈ ls))) ∧ Below w.heap.size w w' := by
  have HL := Lib.hid hl
  clear hl
  go_enter Try.func29, Try.ntmps29
  go_wp2
  go_loopw [5] (fun i wr => ∃ k : Nat, k ≤ len ∧ i = .int .i64 k ∧ (∀ j, j < k → ¬ ls.getD j 0 = v) ∧ wr = w.alloc (.cells #[.slice a len cap, .int .i64 back, .bool up] 26)) (fun i _ => len - (intOf i).toNat)
  case atStart => exact ⟨0, Nat.zero_le _, rfl, fun j hj => absurd hj (Nat.not_lt_zero _), rfl⟩
  case round =>
    obtain ⟨k, hk, rfl, hno, rfl⟩ := hrel
    have HN := Lib.hid hno
    clear hno
    by_cases hlt : k < len
    · obtain ⟨ad, rfl, hc⟩ := HL.out.2 k hlt
      obtain ⟨z, hz⟩ : ∃ z, ls.getD k 0 = z := ⟨_, rfl⟩
      rw [hz] at hc
      have HZ := Lib.hid hz
      have hca : (w.alloc (.cells #[.slice (some ad) len cap, .int .i64 back, .bool up] 26)).cell? (ad.add k) = some (.int .i64 z) := below_cell_of (below_new (Below.refl _ _) _) hc
      clear hz hc
      by_cases hv : z = v
      · subst hv
        have hmem : z ∈ ls := by rw [← HZ.out]; exact HL.out.mem hlt
        have HM := Lib.hid (decide_eq_true hmem)
        clear hmem
        go_wp2
        go_ret
        exact ⟨by rw [HM.out]; rfl, below_new (Below.refl _ _) _⟩
      · go_wp2
        go_roundw
        case rel => exact ⟨k + 1, by omega, by go_num, (fun j hj => by
          by_cases e : j = k
          · subst e; rw [HZ.out]; exact hv
          · exact HN.out j (by omega)), by first | rfl | trivial⟩
        case measure => simp [intOf]; omega
    · obtain rfl : k = len := by omega
      have hnm : ¬ v ∈ ls := by
        intro h
        obtain ⟨j, hj, e⟩ := List.getElem_of_mem h
        refine HN.out j (by rw [← HL.out.1]; exact hj) ?_
        rw [List.getD_eq_getElem?_getD, List.getElem?_eq_getElem hj]
        exact e
      have HM := Lib.hid (decide_eq_false hnm)
      clear hnm
      go_wp2
      go_ret
      exact ⟨by rw [HM.out]; rfl, below_new (Below.refl _ _) _⟩

set_option maxRecDepth 100000 in
set_option maxHeartbeats 4000000 in
theorem rthrough_any (a : Option Addr) (len cap : Nat) (ps : List PathV) (link : Int) (w : World) (hl : RdP w a len ps) (h100 : len ≤ 100) :
    Calls Try.prog 20 #[.slice a len cap, .int .i64 link] w fun e w' => (∃ A n c, e = .returned (.slice A n c) ∧ RdI w' .i64 A n (Ro.through link (ps.map PathV.ls)) ∧ ∀ ad, A = some ad → w.heap.size ≤ ad.block) ∧ Below w.heap.size w w' := by
  have HL := Lib.hid hl
  clear hl
  obtain ⟨i0, hi, hz0, hz1, hz2⟩ := info_parts info_int
  go_enter Try.func20, Try.ntmps20
  go_wp2
  go_loopw [5, 6] (fun v i wr => ∃ k : Nat, k ≤ len ∧ i = .int .i64 k ∧ wr.ownsRow w.heap.size 3 1 v (Ro.throughTo link (ps.map PathV.ls) k).length ((Ro.throughTo link (ps.map PathV.ls) k).map (Value.int .i64)) ∧ Below w.heap.size w wr) (fun _ i _ => len - (intOf i).toNat)
  case atStart => exact ⟨0, Nat.zero_le _, rfl, World.ownsRow_nil _ _ _ _, Below.refl _ _⟩
  case round =>
    obtain ⟨k, hk, rfl, hown, hB⟩ := hrel
    by_cases hlt : k < len
    · obtain ⟨ad, rfl, c0, c1, c2, hin⟩ := (HL.out.below hB).2 k hlt
      have hgd : (ps.map PathV.ls).getD k [] = (ps.getD k default).ls := by
        have hkl : k < ps.length := by rw [HL.out.1]; exact hlt
        rw [List.getD_eq_getElem?_getD, List.getD_eq_getElem?_getD, List.getElem?_map, List.getElem?_eq_getElem hkl]
        rfl
      obtain ⟨p, hp⟩ : ∃ p, ps.getD k default = p := ⟨_, rfl⟩
      rw [hp] at c0 c1 c2 hin hgd
      have HIN := Lib.hid hin
      have HGD := Lib.hid hgd
      obtain ⟨pa, pl, pc, pls, pb, pu⟩ := p
      have htl := Ro.throughTo_length link (ps.map PathV.ls) k
      simp only at c0 c1 c2
      have HOWN := Lib.hid hown
      have HB := Lib.hid hB
      have hsz := hB.size
      clear hp hin hgd hown hB
      go_wp2_with fail
      refine (rhas_any pa pl pc pls pb pu link _ HIN.out.2 HIN.out.1).mono ?_
      rintro e w1 ⟨rfl, hb1⟩
      have HB1 := Lib.hid hb1
      have hz1' := hb1.size
      clear hb1
      by_cases hmem : link ∈ pls
      · have HTS := Lib.hid (Ro.throughTo_yes (link := link) (lss := ps.map PathV.ls) (k := k) (by rw [HGD.out]; exact hmem))
        rw [decide_eq_true hmem]
        clear hmem
        obtain ⟨m, hm⟩ : ∃ m, (Ro.throughTo link (ps.map PathV.ls) k).length = m := ⟨_, rfl⟩
        have HM := Lib.hid hm
        rw [hm] at htl
        have hown2 := own_below HOWN.out HB1.out
        rw [hm] at hown2
        have HOWN2 := Lib.hid hown2
        clear hm hown2
        go_wp2_with (at_builtin; refine wpList_append_own _ rfl _ _ 24 rfl w.heap.size 3 i0 (.int .i64 0) 1 8 Try.underlying24 hi hz0 hz1 hz2 rfl (by decide) _ _ _ rfl (HOWN2.out.alloc _) ⟨w1.heap.size, 0, none⟩ 1 1 [.int .i64 k] rfl rfl ?c1 ?c2 ?c3 ?c4 ?c5 ?_)
        case c1 =>
          intro j u hj
          match j, hj with
          | 0, hj => simp at hj; subst hj; simp [Addr.add]
        case c2 => intro u hu; simp at hu; subst hu; rfl
        case c3 => unfold maxLen; omega
        case c4 => omega
        case c5 => simp; omega
        intro v' w2 hown' hgrow _
        have HO := Lib.hid hown'
        have HG := Lib.hid hgrow
        clear hown' hgrow
        go_wp2
        go_roundw
        case rel =>
          refine ⟨k + 1, by omega, by go_num, ?_, ?_⟩
          · rw [HTS.out, List.length_append, HM.out, List.map_append]
            exact HO.out
          · exact ((below_new (below_on HB.out HB1.out) _).grown HG.out (by simp; omega) (own_base' HOWN2.out))
        case measure => simp [intOf]; omega
      · have HTS := Lib.hid (Ro.throughTo_no (link := link) (lss := ps.map PathV.ls) (k := k) (by rw [HGD.out]; exact hmem))
        rw [decide_eq_false hmem]
        clear hmem
        go_wp2
        go_roundw
        case rel => exact ⟨k + 1, by omega, by go_num, by rw [HTS.out]; exact own_below HOWN.out HB1.out, below_on HB.out HB1.out⟩
        case measure => simp [intOf]; omega
    · obtain rfl : k = len := by omega
      obtain ⟨A, c, rfl⟩ := own_slice hown
      have htl : Ro.throughTo link (ps.map PathV.ls) k = Ro.through link (ps.map PathV.ls) := by unfold Ro.through; rw [List.length_map, HL.out.1]
      have HR := Lib.hid (RdI.of_own hown)
      have HTL := Lib.hid htl
      have HB := Lib.hid hB
      have hat : ∀ ad, A = some ad → w.heap.size ≤ ad.block := fun ad e => own_base' hown _ (by rw [e]; rfl)
      have HAT := Lib.hid hat
      clear hown hB htl hat
      go_wp2
      go_ret
      exact ⟨⟨A, _, c, rfl, by rw [← HTL.out]; exact HR.out, HAT.out⟩, HB.out⟩
theorem rtransmission_any (r size : Int) (w : World) (r0 : 1 ≤ r) (r1 : r ≤ 1000000) (s0 : 1 ≤ size) (s1 : size ≤ 10000) :
    Calls Try.prog 25 #[.int .i64 r, .int .i64 size] w fun e w' => e = .returned (.int .i64 ((1000 * size + r - 1).tdiv r)) ∧ w' = w := by
  have hq : 0 ≤ (1000 * size + r - 1).tdiv r ∧ (1000 * size + r - 1).tdiv r ≤ 1000 * size + r - 1 := by
    rw [Int.tdiv_eq_ediv_of_nonneg (by omega)]
    exact ⟨Int.ediv_nonneg (by omega) (by omega), Int.ediv_le_self _ (by omega)⟩
  obtain ⟨q0, q1⟩ := hq
  have hrz : ¬ r = 0 := by omega
  go_enter Try.func25, Try.ntmps25
  go_wp2
  go_ret
  exact ⟨rfl, rfl⟩
end Go.Proofs.Ytjjplcjinhcpiaa
