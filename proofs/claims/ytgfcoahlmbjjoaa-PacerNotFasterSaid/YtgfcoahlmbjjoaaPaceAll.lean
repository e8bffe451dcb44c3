/- Package pacer: the condition that a number lies in a range, as a function value, and the conjunction of such conditions. -/
import Derived.Test.YtgfcoahlmbjjoaaProg
import Derived.Test.YtgfcoahlmbjjoaaPaceMath
import Derived.Test.YtgfcoahlmbjjoaaMem
import Derived.WalkKit
import Derived.Outline
import Derived.LoopN
import Derived.Deep.QuietTactic
import Derived.BigQuiet
import Derived.WalkSpells
import Derived.Lib.Hide
import Derived.Deep.RegionHeld3
namespace Go.Proofs.Ytgfcoahlmbjjoaa
open Go.RowKit

def inB (x : Int × Int × Int) : Bool := decide (x.2.1 ≤ x.1) && decide (x.1 ≤ x.2.2)
/-- f is the condition that x.1 lies from x.2.1 to x.2.2. -/
def IsIn (w : World) (f : Value) (x : Int × Int × Int) : Prop :=
  ∃ a b c : Nat, f = .func (.func 24) #[] #[.pointer (some ⟨a, 0, none⟩), .pointer (some ⟨b, 0, none⟩), .pointer (some ⟨c, 0, none⟩)] ∧
    w.cell? ⟨a, 0, none⟩ = some (.int .i64 x.1) ∧ w.cell? ⟨b, 0, none⟩ = some (.int .i64 x.2.1) ∧ w.cell? ⟨c, 0, none⟩ = some (.int .i64 x.2.2)

theorem in_any (w : World) (a b c : Nat) (n lo hi : Int) (ha : w.cell? ⟨a, 0, none⟩ = some (.int .i64 n)) (hb : w.cell? ⟨b, 0, none⟩ = some (.int .i64 lo)) (hc : w.cell? ⟨c, 0, none⟩ = some (.int .i64 hi)) :
    Calls Try.prog 24 #[.pointer (some ⟨a, 0, none⟩), .pointer (some ⟨b, 0, none⟩), .pointer (some ⟨c, 0, none⟩)] w fun e w' => e = .returned (.bool (inB (n, lo, hi))) ∧ w = w' := by
  by_cases h1 : lo ≤ n
  · by_cases h2 : n ≤ hi
    · have hd : inB (n, lo, hi) = true := by simp [inB, h1, h2]
      have HD := Lib.hid hd
      clear hd
      go_enter Try.func24, Try.ntmps24
      go_wp2
      go_ret
      exact ⟨ret_bool HD.out.symm, rfl⟩
    · have hd : inB (n, lo, hi) = false := by simp [inB, h2]
      have HD := Lib.hid hd
      clear hd
      go_enter Try.func24, Try.ntmps24
      go_wp2
      go_ret
      exact ⟨ret_bool HD.out.symm, rfl⟩
  · have hd : inB (n, lo, hi) = false := by simp [inB, h1]
    have HD := Lib.hid hd
    clear hd
    go_enter Try.func24, Try.ntmps24
    go_wp2
    go_ret
    exact ⟨ret_bool HD.out.symm, rfl⟩

theorem within_any (w : World) (n lo hi : Int) : Calls Try.prog 22 #[.int .i64 n, .int .i64 lo, .int .i64 hi] w fun e w' =>
    e = .returned (.func (.func 24) #[] #[.pointer (some ⟨w.heap.size, 0, none⟩), .pointer (some ⟨w.heap.size + 1, 0, none⟩), .pointer (some ⟨w.heap.size + 1 + 1, 0, none⟩)]) ∧ ((w.alloc (.cells #[.int .i64 n] 3)).alloc (.cells #[.int .i64 lo] 3)).alloc (.cells #[.int .i64 hi] 3) = w' := by
  have hmf : ∀ (fn : Fn) (first cap : Array Value) (w : World), (Instr.makeFunc fn first cap).run Try.prog w = .ok (.func fn first cap) w := fun _ _ _ _ => rfl
  go_enter Try.func22, Try.ntmps22
  go_wp2
  go_ret
  exact ⟨rfl, rfl⟩

theorem all_any (w : World) (ad : Addr) (cap : Nat) (fs : List Value) (xs : List (Int × Int × Int)) (hl : fs.length = xs.length) (hm : fs.length ≤ 1000) (hcell : ∀ (k : Nat) (f : Value), fs[k]? = some f → w.cell? (ad.add k) = some f)
    (hin : ∀ (k : Nat) (f : Value) (x : Int × Int × Int), fs[k]? = some f → xs[k]? = some x → IsIn w f x) :
    Calls Try.prog 21 #[.slice (some ad) fs.length cap] w fun e w' => e = .returned (.bool (xs.all inB)) ∧ w = w' := by
  have HL := Lib.hid hl
  have HC := Lib.hid hcell
  have HI := Lib.hid hin
  clear hl hcell hin
  obtain ⟨n, hn⟩ : ∃ n, n = fs.length := ⟨_, rfl⟩
  rw [← hn] at hm ⊢
  have HN := Lib.hid hn
  clear hn
  go_enter Try.func21, Try.ntmps21
  go_wp2
  go_loop [7] (fun i => ∃ k : Nat, k ≤ n ∧ i = .int .i64 k ∧ (xs.take k).all inB = true) (fun i => n - (intOf i).toNat)
  case atStart => exact ⟨0, Nat.zero_le _, rfl, rfl⟩
  case round =>
    obtain ⟨k, hk, rfl, hall⟩ := hrel
    have HA := Lib.hid hall
    clear hall
    by_cases hlt : k < n
    · obtain ⟨f, hf⟩ : ∃ f, fs[k]? = some f := ⟨_, List.getElem?_eq_getElem (by have := HN.out; omega)⟩
      obtain ⟨x, hx⟩ : ∃ x, xs[k]? = some x := ⟨_, List.getElem?_eq_getElem (by have := HN.out; have := HL.out; omega)⟩
      obtain ⟨a, b, c, rfl, ha, hb, hc⟩ := HI.out k f x hf hx
      have hcl := HC.out k _ hf
      have ht : xs.take (k + 1) = xs.take k ++ [x] := by rw [List.take_add_one, hx]; rfl
      have HT := Lib.hid ht
      have HX := Lib.hid hx
      clear hf hx ht
      obtain ⟨nn, lo, hi⟩ := x
      by_cases hv : inB (nn, lo, hi) = true
      · have HV := Lib.hid hv
        clear hv
        go_wp2_with (go_at_call 24; refine (in_any _ a b c nn lo hi ha hb hc).mono ?_; rw [HV.out]; rintro e w' ⟨rfl, rfl⟩)
        go_round
        case rel => exact ⟨k + 1, by omega, by go_num, by rw [HT.out, List.all_append, HA.out]; simp [HV.out]⟩
        case measure => simp [intOf]; omega
      · rw [Bool.not_eq_true] at hv
        have HV := Lib.hid hv
        clear hv
        go_wp2_with (go_at_call 24; refine (in_any _ a b c nn lo hi ha hb hc).mono ?_; rw [HV.out]; rintro e w' ⟨rfl, rfl⟩)
        go_ret
        refine ⟨ret_bool ?_, rfl⟩
        have : xs.all inB = false := by
          rw [List.all_eq_false]
          exact ⟨_, List.mem_of_getElem? HX.out, by rw [HV.out]; simp⟩
        rw [this]
    · obtain rfl : k = n := by omega
      go_wp2
      go_ret
      refine ⟨ret_bool ?_, rfl⟩
      have h := HA.out
      rw [List.take_of_length_le (by have := HN.out; have := HL.out; omega)] at h
      rw [h]

def clo (a b c : Nat) : Value := .func (.func 24) #[] #[.pointer (some ⟨a, 0, none⟩), .pointer (some ⟨b, 0, none⟩), .pointer (some ⟨c, 0, none⟩)]
theorem add_lit (s k : Nat) : (⟨s, 0, none⟩ : Addr).add k = ⟨s, k, none⟩ := by unfold Addr.add; split <;> simp_all
theorem all2 (w : World) (s a b c d e f : Nat) (x y : Int × Int × Int) (h0 : w.cell? ⟨s, 0, none⟩ = some (clo a b c)) (h1 : w.cell? ⟨s, 1, none⟩ = some (clo d e f))
    (ha : w.cell? ⟨a, 0, none⟩ = some (.int .i64 x.1)) (hb : w.cell? ⟨b, 0, none⟩ = some (.int .i64 x.2.1)) (hc : w.cell? ⟨c, 0, none⟩ = some (.int .i64 x.2.2))
    (hd : w.cell? ⟨d, 0, none⟩ = some (.int .i64 y.1)) (he : w.cell? ⟨e, 0, none⟩ = some (.int .i64 y.2.1)) (hf : w.cell? ⟨f, 0, none⟩ = some (.int .i64 y.2.2)) :
    Calls Try.prog 21 #[.slice (some ⟨s, 0, none⟩) 2 2] w fun e w' => e = .returned (.bool (inB x && inB y)) ∧ w = w' := by
  have h := all_any w ⟨s, 0, none⟩ 2 [clo a b c, clo d e f] [x, y] rfl (by simp) (by
    intro k g hg
    rw [add_lit]
    match k, hg with
    | 0, hg => simp at hg; rw [← hg]; exact h0
    | 1, hg => simp at hg; rw [← hg]; exact h1) (by
    intro k g z hg hz
    match k, hg, hz with
    | 0, hg, hz => simp at hg hz; subst hg hz; exact ⟨a, b, c, rfl, ha, hb, hc⟩
    | 1, hg, hz => simp at hg hz; subst hg hz; exact ⟨d, e, f, rfl, hd, he, hf⟩)
  simpa using h
theorem all3 (w : World) (s a b c d e f g h i : Nat) (x y z : Int × Int × Int) (h0 : w.cell? ⟨s, 0, none⟩ = some (clo a b c)) (h1 : w.cell? ⟨s, 1, none⟩ = some (clo d e f)) (h2 : w.cell? ⟨s, 2, none⟩ = some (clo g h i))
    (ha : w.cell? ⟨a, 0, none⟩ = some (.int .i64 x.1)) (hb : w.cell? ⟨b, 0, none⟩ = some (.int .i64 x.2.1)) (hc : w.cell? ⟨c, 0, none⟩ = some (.int .i64 x.2.2))
    (hd : w.cell? ⟨d, 0, none⟩ = some (.int .i64 y.1)) (he : w.cell? ⟨e, 0, none⟩ = some (.int .i64 y.2.1)) (hf : w.cell? ⟨f, 0, none⟩ = some (.int .i64 y.2.2))
    (hg : w.cell? ⟨g, 0, none⟩ = some (.int .i64 z.1)) (hh : w.cell? ⟨h, 0, none⟩ = some (.int .i64 z.2.1)) (hi : w.cell? ⟨i, 0, none⟩ = some (.int .i64 z.2.2)) :
    Calls Try.prog 21 #[.slice (some ⟨s, 0, none⟩) 3 3] w fun e w' => e = .returned (.bool (inB x && inB y && inB z)) ∧ w = w' := by
  have h := all_any w ⟨s, 0, none⟩ 3 [clo a b c, clo d e f, clo g h i] [x, y, z] rfl (by simp) (by
    intro k u hu
    rw [add_lit]
    match k, hu with
    | 0, hu => simp at hu; rw [← hu]; exact h0
    | 1, hu => simp at hu; rw [← hu]; exact h1
    | 2, hu => simp at hu; rw [← hu]; exact h2) (by
    intro k u v hu hv
    match k, hu, hv with
    | 0, hu, hv => simp at hu hv; subst hu hv; exact ⟨a, b, c, rfl, ha, hb, hc⟩
    | 1, hu, hv => simp at hu hv; subst hu hv; exact ⟨d, e, f, rfl, hd, he, hf⟩
    | 2, hu, hv => simp at hu hv; subst hu hv; exact ⟨g, h, i, rfl, hg, hh, hi⟩)
  simpa [Bool.and_assoc] using h
end Go.Proofs.Ytgfcoahlmbjjoaa
