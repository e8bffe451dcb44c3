/- What is wrong with paths: the walk of the function over a slice of paths. -/
import Derived.Test.YtjjplcjinhcpiaaRoWrong
namespace Go.Proofs.Ytjjplcjinhcpiaa
open Go.RowKit

/-- A path in memory: its slice of links, the links, the delay back, whether it is up. -/
structure PathV where
  a : Option Addr
  len : Nat
  cap : Nat
  ls : List Int
  back : Int
  up : Bool
def PathV.val (p : PathV) : Value := .agg #[.slice p.a p.len p.cap, .int .i64 p.back, .bool p.up]
def PathV.plain (p : PathV) : List Int × Int := (p.ls, p.back)
/-- The path's links lie in memory. -/
def PathV.In (p : PathV) (w : World) : Prop := RdI w .i64 p.a p.len p.ls ∧ (p.len : Int) ≤ 9223372036854775807
instance : Inhabited PathV := ⟨⟨none, 0, 0, [], 0, false⟩⟩
/-- The slice value with this address and length reads as these paths. -/
def RdP (w : World) (a : Option Addr) (n : Nat) (ps : List PathV) : Prop :=
  ps.length = n ∧ ∀ i, i < n → ∃ ad, a = some ad ∧ w.cell? (ad.add (i * 3)) = some (.slice (ps.getD i default).a (ps.getD i default).len (ps.getD i default).cap) ∧ w.cell? ⟨(ad.add (i * 3)).block, (ad.add (i * 3)).off + 1, none⟩ = some (.int .i64 (ps.getD i default).back) ∧
    w.cell? ⟨(ad.add (i * 3)).block, (ad.add (i * 3)).off + 2, none⟩ = some (.bool (ps.getD i default).up) ∧ (ps.getD i default).In w
theorem PathV.In.below {p : PathV} {w w1 : World} (h : p.In w) (hb : Below w.heap.size w w1) : p.In w1 := ⟨h.1.below hb, h.2⟩
theorem RdP.below {w w1 : World} {a : Option Addr} {n : Nat} {ps : List PathV} (h : RdP w a n ps) (hb : Below w.heap.size w w1) : RdP w1 a n ps :=
  ⟨h.1, fun i hi => by
    obtain ⟨ad, e, h0, h1, h2, h3⟩ := h.2 i hi
    exact ⟨ad, e, below_cell_of hb h0, below_cell_of hb h1, below_cell_of hb h2, h3.below hb⟩⟩

set_option maxRecDepth 100000 in
set_option maxHeartbeats 4000000 in
theorem check_any (many : Int) (a : Option Addr) (len cap : Nat) (ps : List PathV) (w : World) (hl : RdP w a len ps) (hm : (len : Int) ≤ 9223372036854775807) :
    Calls Try.prog 16 #[.int .i64 many, .slice a len cap] w fun e w' => e = .returned (.int .i64 (Ro.check many (ps.map PathV.plain))) ∧ Below w.heap.size w w' := by
  have HL := Lib.hid hl
  clear hl
  go_enter Try.func16, Try.ntmps16
  go_wp2_with fail
  refine (inside_any many 0 8 _).mono ?_
  cases hi : Ro.inside many 0 8 with
  | false =>
    rintro e w1 ⟨rfl, rfl⟩
    have HC : RowKit.Hid (Ro.check many (ps.map PathV.plain) = 1) := Lib.hid (by unfold Ro.check; rw [if_neg (by rw [hi]; decide)])
    clear hi
    go_wp2
    go_ret
    exact ⟨by rw [HC.out]; rfl, Below.refl _ _⟩
  | true =>
    rintro e w1 ⟨rfl, rfl⟩
    obtain ⟨m0, m1⟩ := (Ro.inside_iff _ _ _).1 hi
    have HI := Lib.hid hi
    clear hi
    by_cases h16 : 16 < len
    · have HC : RowKit.Hid (Ro.check many (ps.map PathV.plain) = 2) := Lib.hid (by unfold Ro.check; rw [if_pos HI.out, if_neg (by rw [List.length_map, HL.out.1]; omega)])
      go_wp2
      go_ret
      exact ⟨by rw [HC.out]; rfl, Below.refl _ _⟩
    · have HC : RowKit.Hid (Ro.check many (ps.map PathV.plain) = Ro.firstErr many (ps.map PathV.plain)) := Lib.hid (by unfold Ro.check; rw [if_pos HI.out, if_pos (by rw [List.length_map, HL.out.1]; omega)])
      go_wp2
      go_loopw [18] (fun i wr => ∃ k : Nat, k ≤ len ∧ i = .int .i64 k ∧ Ro.firstErr many (ps.map PathV.plain) = Ro.firstErr many ((ps.drop k).map PathV.plain) ∧ Below w1.heap.size w1 wr) (fun i _ => len - (intOf i).toNat)
      case atStart => exact ⟨0, Nat.zero_le _, rfl, rfl, Below.refl _ _⟩
      case round =>
        obtain ⟨k, hk, rfl, he, hB⟩ := hrel
        have HE := Lib.hid he
        have HB := Lib.hid hB
        clear he hB
        by_cases hlt : k < len
        · obtain ⟨ad, rfl, c0, c1, c2, hin⟩ := (HL.out.below HB.out).2 k hlt
          obtain ⟨p, hp⟩ : ∃ p, ps.getD k default = p := ⟨_, rfl⟩
          rw [hp] at c0 c1 c2 hin
          have HP := Lib.hid hp
          have HIN := Lib.hid hin
          obtain ⟨pa, pl, pc, pls, pb, pu⟩ := p
          simp only at c0 c1 c2
          clear hp hin
          have hdr : ps.drop k = PathV.mk pa pl pc pls pb pu :: ps.drop (k + 1) := by
            have hkl : k < ps.length := by rw [HL.out.1]; exact hlt
            rw [List.drop_eq_getElem_cons hkl, ← HP.out, List.getD_eq_getElem?_getD, List.getElem?_eq_getElem hkl]
            rfl
          have HD : RowKit.Hid (Ro.firstErr many ((ps.drop k).map PathV.plain) = if Ro.wrong many pls pb = 0 then Ro.firstErr many ((ps.drop (k + 1)).map PathV.plain) else Ro.wrong many pls pb) := Lib.hid (by rw [hdr]; rfl)
          clear hdr
          go_wp2_with fail
          refine (wrong_any many pa pl pc pls pb pu _ m0 m1 ((HIN.out.1).below (below_new (Below.refl _ _) _))).mono ?_
          rintro e w2 ⟨rfl, hb⟩
          have HB2 := Lib.hid (below_on HB.out (below_on (below_new (Below.refl _ _) _) hb))
          by_cases h0 : Ro.wrong many pls pb = 0
          · have HF := Lib.hid (HE.out.trans (HD.out.trans (if_pos h0)))
            rw [h0]
            clear hb h0
            go_wp2
            go_roundw
            case rel => exact ⟨k + 1, by omega, by go_num, HF.out, HB2.out⟩
            case measure => simp [intOf]; omega
          · have HF := Lib.hid (HC.out.trans (HE.out.trans (HD.out.trans (if_neg h0))))
            clear hb
            obtain ⟨x, hx⟩ : ∃ x, Ro.wrong many pls pb = x := ⟨_, rfl⟩
            rw [hx] at h0 HF ⊢
            clear hx
            go_wp2
            go_ret
            exact ⟨by rw [HF.out]; rfl, HB2.out⟩
        · have HF : RowKit.Hid (Ro.check many (ps.map PathV.plain) = 0) := Lib.hid (HC.out.trans (HE.out.trans (by rw [List.drop_of_length_le (by rw [HL.out.1]; omega)]; rfl)))
          go_wp2
          go_ret
          exact ⟨by rw [HF.out]; rfl, HB.out⟩
end Go.Proofs.Ytjjplcjinhcpiaa
