/- The sizes of packets that the statements on package pacer make of numbers. -/
import Derived.Test.YtgfcoahlmbjjoaaPaceHead
import Derived.Test.YtgfcoahlmbjjoaaSlice
namespace Go.Proofs.Ytgfcoahlmbjjoaa
open Go.RowKit

def szOf (z : Int) : Int := 1 + z % 10000
theorem szOf_bd (z : Int) : 1 ≤ szOf z ∧ szOf z ≤ 10000 := by unfold szOf; omega
theorem info_int : (Try.prog.info? 3).map (fun i => (i.zero, i.size, i.bytes)) = some (some (.int .i64 0), 1, 8) := by kernel_rfl

/-- 1000 times the bytes of the first k packets. -/
def sumTo (zs : List Int) (k : Nat) : Int := 1000 * ((zs.take k).map szOf).sum
theorem sumTo_zero (zs : List Int) : sumTo zs 0 = 0 := rfl
theorem sumTo_succ (zs : List Int) (k : Nat) (hk : k < zs.length) : sumTo zs (k + 1) = sumTo zs k + 1000 * szOf (zs.getD k 0) := by
  unfold sumTo
  rw [List.take_add_one, List.getD_eq_getElem?_getD, List.getElem?_eq_getElem hk, List.map_append, List.sum_append]
  simp
  omega
theorem sumTo_bd (zs : List Int) (k : Nat) : 0 ≤ sumTo zs k ∧ sumTo zs k ≤ 10000000 * (k : Int) := by
  induction k with
  | zero => rw [sumTo_zero]; simp
  | succ k ih =>
    by_cases hk : k < zs.length
    · have := szOf_bd (zs.getD k 0)
      rw [sumTo_succ zs k hk]
      omega
    · have : sumTo zs (k + 1) = sumTo zs k := by unfold sumTo; rw [List.take_of_length_le (by omega), List.take_of_length_le (by omega)]
      rw [this]
      omega
set_option maxRecDepth 100000 in
theorem sizes_any (a : Option Addr) (len cap : Nat) (zs : List Int) (w : World) (hlen : len ≤ 100) (hz : RdI w .u16 a len zs) (hbd : ∀ z, z ∈ zs → 0 ≤ z ∧ z ≤ 65535) :
    Calls Try.prog 19 #[.slice a len cap] w fun e w' => (∃ A c, e = .returned (.slice A len c) ∧ RdI w' .i64 A len (zs.map szOf) ∧ ∀ ad, A = some ad → w.heap.size ≤ ad.block) ∧ Below w.heap.size w w' := by
  have HZ := Lib.hid hz
  have HBD := Lib.hid hbd
  have hl := hz.1
  have HL := Lib.hid hl
  clear hz hbd hl
  obtain ⟨i0, hi, hz0, hz1, hz2⟩ := info_parts info_int
  go_enter Try.func19, Try.ntmps19
  go_wp2
  go_loopw [3, 4] (fun v i wr => ∃ k : Nat, k ≤ len ∧ i = .int .i64 k ∧ wr.ownsRow w.heap.size 3 1 v k ((zs.take k).map fun z => .int .i64 (szOf z)) ∧ Below w.heap.size w wr) (fun _ i _ => len - (intOf i).toNat)
  case atStart => exact ⟨0, Nat.zero_le _, rfl, World.ownsRow_nil _ _ _ _, Below.refl _ _⟩
  case round =>
    obtain ⟨k, hk, rfl, hown, hB⟩ := hrel
    by_cases hlt : k < len
    · obtain ⟨ad, rfl, hcell⟩ := (HZ.out.below hB).2 k hlt
      have hzk := HBD.out _ (HZ.out.mem hlt)
      have hts := take_map_succ zs (fun z => .int .i64 (szOf z)) k (by have := HL.out; omega)
      obtain ⟨z, hzd⟩ : ∃ z, zs.getD k 0 = z := ⟨_, rfl⟩
      rw [hzd] at hcell hzk hts
      obtain ⟨hzk0, hzk1⟩ := hzk
      have HTS := Lib.hid hts
      have HOWN := Lib.hid hown
      have HB := Lib.hid hB
      have hsz := hB.size
      clear hts hzd hown hB
      go_wp2_with (at_builtin; refine wpList_append_own _ rfl _ _ 33 rfl w.heap.size 3 i0 (.int .i64 0) 1 8 Try.underlying33 hi hz0 hz1 hz2 rfl (by decide) _ _ _ rfl (HOWN.out.alloc _) ⟨wr.heap.size, 0, none⟩ 1 1 [.int .i64 (1 + z % 10000)] rfl rfl ?c1 ?c2 ?c3 ?c4 ?c5 ?_)
      case c1 =>
        intro j u hj
        match j, hj with
        | 0, hj => simp at hj; subst hj; simp [Addr.add]
      case c2 => intro u hu; simp at hu; subst hu; rfl
      case c3 => unfold maxLen; omega
      case c4 => omega
      case c5 => simp; omega
      intro v' w1 hown' hgrow _
      have HO := Lib.hid hown'
      have HG := Lib.hid hgrow
      clear hown' hgrow
      go_wp2
      go_roundw
      case rel =>
        refine ⟨k + 1, by omega, by go_num, ?_, ?_⟩
        · rw [HTS.out]
          have ho := HO.out
          simp only [← List.map_take] at ho
          exact ho
        · exact ((below_new HB.out _).grown HG.out (by simp; omega) (own_base' HOWN.out))
      case measure => simp [intOf]; omega
    · obtain rfl : k = len := by omega
      have hmm : (zs.map fun z => Value.int .i64 (szOf z)) = (zs.map szOf).map (Value.int .i64) := by rw [List.map_map]; rfl
      have htk : zs.take k = zs := List.take_of_length_le (by have := HL.out; omega)
      obtain ⟨A, c, rfl⟩ := own_slice hown
      have HR := Lib.hid (RdI.of_own (zs := zs.map szOf) (by
        have ho := hown
        rw [htk, hmm] at ho
        exact ho))
      have HB := Lib.hid hB
      have hat : ∀ ad, A = some ad → w.heap.size ≤ ad.block := fun ad e => own_base' hown _ (by rw [e]; rfl)
      have HAT := Lib.hid hat
      clear hown hB hmm htk hat
      go_wp2
      go_ret
      exact ⟨⟨A, c, rfl, HR.out, HAT.out⟩, HB.out⟩
end Go.Proofs.Ytgfcoahlmbjjoaa
