/- The statement RouteFirstError: it returns true, whatever the input, and leaves what was in memory alone. -/
import Derived.Test.YtjjplcjinhcpiaaRoHead
namespace Go.Proofs.Ytjjplcjinhcpiaa
open Go.RowKit

theorem firstErr_snoc (many : Int) (l : List (List Int × Int)) (p : List Int × Int) : Ro.firstErr many (l ++ [p]) = if Ro.firstErr many l = 0 then Ro.firstErr many [p] else Ro.firstErr many l := by
  induction l with
  | nil => rfl
  | cons q r ih =>
    show (if Ro.wrong many q.1 q.2 = 0 then Ro.firstErr many (r ++ [p]) else Ro.wrong many q.1 q.2) = _
    by_cases h : Ro.wrong many q.1 q.2 = 0
    · rw [if_pos h, ih]
      have e : Ro.firstErr many (q :: r) = Ro.firstErr many r := by show (if _ then _ else _) = _; rw [if_pos h]
      rw [e]
    · have e : Ro.firstErr many (q :: r) = Ro.wrong many q.1 q.2 := by show (if _ then _ else _) = _; rw [if_neg h]
      rw [if_neg h, e, if_neg h]
theorem check_snoc (many : Int) (l : List (List Int × Int)) (p : List Int × Int) (h : l.length + 1 ≤ 16) : Ro.check many (l ++ [p]) = if Ro.check many l = 0 then Ro.check many [p] else Ro.check many l := by
  unfold Ro.check
  rw [List.length_append, List.length_singleton]
  by_cases hi : Ro.inside many 0 8 = true
  · rw [if_pos hi, if_pos hi, if_pos hi, if_pos h, if_pos (show l.length ≤ 16 by omega), if_pos (show 1 ≤ 16 by omega), firstErr_snoc]
  · rw [if_neg hi, if_neg hi, if_neg hi]
    rfl
theorem take_snoc (ps : List PathV) (k : Nat) (hk : k < ps.length) : (ps.take (k + 1)).map PathV.plain = (ps.take k).map PathV.plain ++ [(ps.getD k default).plain] := by
  rw [List.take_add_one, List.getD_eq_getElem?_getD, List.getElem?_eq_getElem hk, List.map_append]
  rfl

set_option maxHeartbeats 4000000 in
set_option maxRecDepth 100000 in
theorem first_entry (many : Int) (a : Option Addr) (len cap : Nat) (ps : List PathV) (w : World) (hl : RdP w a len ps) (hm : (len : Int) ≤ 9223372036854775807) :
    Calls Try.prog 6 #[.int .i64 many, .slice a len cap] w fun e w' => e = .returned (.bool true) ∧ Below w.heap.size w w' := by
  have HL := Lib.hid hl
  clear hl
  obtain ⟨f, hf⟩ : ∃ f, fewB len ps = f := ⟨_, rfl⟩
  have HF := Lib.hid hf
  clear hf
  go_enter Try.func6, Try.ntmps6
  go_wp2_with fail
  refine (head_ok _).mono ?_
  rintro e w1 ⟨rfl, hb1⟩
  have HB1 := Lib.hid hb1
  clear hb1
  go_wp2_with fail
  refine (few_any none 0 0 a len cap ps _ (HL.out.below HB1.out) hm).mono ?_
  rw [HF.out, show decide (0 ≤ 20) = true from rfl]
  rintro e w2 ⟨rfl, rfl⟩
  cases f with
  | false =>
    go_wp2
    go_ret
    exact ⟨rfl, HB1.out⟩
  | true =>
    by_cases h16 : 16 < len
    · go_wp2
      go_ret
      exact ⟨rfl, HB1.out⟩
    · go_wp2_with fail
      refine (check_any many none 0 0 [] _ (rdP_none _) (by omega)).mono ?_
      rintro e w3 ⟨rfl, hb3⟩
      have HB3 := Lib.hid (below_on HB1.out hb3)
      clear hb3
      obtain ⟨x0, hx0⟩ : ∃ x, Ro.check many (([] : List PathV).map PathV.plain) = x := ⟨_, rfl⟩
      rw [hx0]
      have HX0 := Lib.hid hx0
      clear hx0
      go_wp2
      go_loopw [6, 23] (fun v i wr => ∃ k : Nat, k ≤ len ∧ i = .int .i64 k ∧ v = .int .i64 (Ro.check many ((ps.take k).map PathV.plain)) ∧ Below w.heap.size w wr) (fun _ i _ => len - (intOf i).toNat)
      case atStart => exact ⟨0, Nat.zero_le _, rfl, by rw [← HX0.out, List.take_zero], HB3.out⟩
      case round =>
        obtain ⟨k, hk, rfl, rfl, hB⟩ := hrel
        obtain ⟨x, hx⟩ : ∃ x, Ro.check many ((ps.take k).map PathV.plain) = x := ⟨_, rfl⟩
        rw [hx]
        have HX := Lib.hid hx
        have HB := Lib.hid hB
        clear hx hB
        by_cases hlt : k < len
        · obtain ⟨ad, rfl, c0, c1, c2, hin⟩ := (HL.out.below HB.out).2 k hlt
          have hsn := check_snoc many ((ps.take k).map PathV.plain) (ps.getD k default).plain (by rw [List.length_map, List.length_take]; omega)
          rw [← take_snoc ps k (by rw [HL.out.1]; exact hlt), HX.out] at hsn
          obtain ⟨p, hp⟩ : ∃ p, ps.getD k default = p := ⟨_, rfl⟩
          rw [hp] at c0 c1 c2 hin hsn
          have HIN := Lib.hid hin
          have HSN := Lib.hid hsn
          obtain ⟨pa, pl, pc, pls, pb, pu⟩ := p
          simp only at c0 c1 c2
          clear hp hin hsn
          by_cases hx : x = 0
          · subst hx
            go_wp2_with fail
            refine (check_any many (some ⟨wr.heap.size + 1, 0, none⟩) 1 1 [⟨pa, pl, pc, pls, pb, pu⟩] _ (rdP_one (by go_simp) (by go_simp) (by go_simp) (HIN.out.below (below_new (below_new (Below.refl _ _) _) _))) (by omega)).mono ?_
            rintro e w4 ⟨rfl, hb4⟩
            have HB4 := Lib.hid (below_on HB.out (below_on (below_new (below_new (Below.refl _ _) _) _) hb4))
            clear hb4
            go_wp2
            go_roundw
            case rel => exact ⟨k + 1, by omega, by go_num, by rw [HSN.out]; first | rfl | (rw [if_pos rfl]; rfl), HB4.out⟩
            case measure => simp [intOf]; omega
          · go_wp2
            go_roundw
            case rel => exact ⟨k + 1, by omega, by go_num, by rw [HSN.out, if_neg hx], below_new HB.out _⟩
            case measure => simp [intOf]; omega
        · obtain rfl : k = len := by omega
          have hxx := HX.out
          rw [List.take_of_length_le (by rw [HL.out.1]; omega)] at hxx
          have HXX := Lib.hid hxx
          clear hxx
          go_wp2_with fail
          refine (check_any many a k cap ps _ (HL.out.below HB.out) hm).mono ?_
          rw [HXX.out]
          rintro e w4 ⟨rfl, hb4⟩
          have HB4 := Lib.hid (below_on HB.out hb4)
          clear hb4
          go_wp2
          go_ret
          exact ⟨rfl, HB4.out⟩
end Go.Proofs.Ytjjplcjinhcpiaa
