/- The small functions of the reference and of the statements on package route: lists compared, few paths, the link of a hop. -/
import Derived.Test.YtjjplcjinhcpiaaRoTrip
namespace Go.Proofs.Ytjjplcjinhcpiaa
open Go.RowKit

theorem ext_getD {xs ys : List Int} (hl : xs.length = ys.length) (h : ∀ j, j < xs.length → xs.getD j 0 = ys.getD j 0) : xs = ys := by
  apply List.ext_getElem hl
  intro i h1 h2
  have := h i h1
  rw [List.getD_eq_getElem?_getD, List.getD_eq_getElem?_getD, List.getElem?_eq_getElem h1, List.getElem?_eq_getElem h2] at this
  exact this
set_option maxRecDepth 100000 in
set_option maxHeartbeats 4000000 in
theorem ints_any (a : Option Addr) (n c : Nat) (xs : List Int) (b : Option Addr) (m d : Nat) (ys : List Int) (w : World) (hx : RdI w .i64 a n xs) (hy : RdI w .i64 b m ys) (hn : (n : Int) ≤ 9223372036854775807) (hm : (m : Int) ≤ 9223372036854775807) :
    Calls Try.prog 18 #[.slice a n c, .slice b m d] w fun e w' => e = .returned (.bool (decide (xs = ys))) ∧ Below w.heap.size w w' := by
  have HX := Lib.hid hx
  have HY := Lib.hid hy
  clear hx hy
  go_enter Try.func18, Try.ntmps18
  by_cases hnm : n = m
  · subst hnm
    go_wp2
    go_loopw [5] (fun i wr => ∃ k : Nat, k ≤ n ∧ i = .int .i64 k ∧ (∀ j, j < k → xs.getD j 0 = ys.getD j 0) ∧ Below w.heap.size w wr) (fun i _ => n - (intOf i).toNat)
    case atStart => exact ⟨0, Nat.zero_le _, rfl, fun j hj => absurd hj (Nat.not_lt_zero _), Below.refl _ _⟩
    case round =>
      obtain ⟨k, hk, rfl, heq, hB⟩ := hrel
      have HEQ := Lib.hid heq
      have HB := Lib.hid hB
      clear heq hB
      by_cases hlt : k < n
      · obtain ⟨ad, rfl, c0⟩ := (HX.out.below HB.out).2 k hlt
        obtain ⟨bd, rfl, d0⟩ := (HY.out.below HB.out).2 k hlt
        obtain ⟨x, hxx⟩ : ∃ x, xs.getD k 0 = x := ⟨_, rfl⟩
        obtain ⟨y, hyy⟩ : ∃ y, ys.getD k 0 = y := ⟨_, rfl⟩
        rw [hxx] at c0
        rw [hyy] at d0
        have HXX := Lib.hid hxx
        have HYY := Lib.hid hyy
        clear hxx hyy
        go_wp2
        refine wp_region_held_drew (S := (fun W => W.cell? (ad.add k) = some (.int .i64 x) ∧ W.cell? (bd.add k) = some (.int .i64 y))) (by kernel_rfl) ?_ (fun hHeld => ?_)
        · exact ⟨c0, d0⟩
        refine wpAnyH_take (i := 0) (v := ?_) rfl (by kernel_rfl) (by kernel_rfl) (by kernel_rfl) (fun _ _ _ h => h) (Or.inl ⟨by rfl, ?_⟩) hHeld ?_
        rotate_left
        · intro wS hSw; obtain ⟨hS0, hS1⟩ := hSw; go_simp; try with_reducible rfl
        try go_simp
        refine wpAnyH_take (i := 1) (v := ?_) rfl (by kernel_rfl) (by kernel_rfl) (by kernel_rfl) (fun _ _ _ h => h) (Or.inl ⟨by rfl, ?_⟩) hHeld ?_
        rotate_left
        · intro wS hSw; obtain ⟨hS0, hS1⟩ := hSw; go_simp; try with_reducible rfl
        try go_simp
        refine wpAnyH_take (i := 2) (v := ?_) rfl (by kernel_rfl) (by kernel_rfl) (by kernel_rfl) (fun _ _ _ h => h) (Or.inl ⟨by rfl, ?_⟩) hHeld ?_
        rotate_left
        · intro wS hSw; obtain ⟨hS0, hS1⟩ := hSw; go_simp; try with_reducible rfl
        try go_simp
        refine wpAnyH_take (i := 3) (v := ?_) rfl (by kernel_rfl) (by kernel_rfl) (by kernel_rfl) (fun _ _ _ h => h) (Or.inl ⟨by rfl, ?_⟩) hHeld ?_
        rotate_left
        · intro wS hSw; obtain ⟨hS0, hS1⟩ := hSw; go_simp; try with_reducible rfl
        try go_simp
        refine wpAnyH_take (i := 4) (v := ?_) rfl (by kernel_rfl) (by kernel_rfl) (by kernel_rfl) (fun _ _ _ h => h) (Or.inl ⟨by rfl, ?_⟩) hHeld ?_
        rotate_left
        · intro wS hSw; obtain ⟨hS0, hS1⟩ := hSw; go_simp; try with_reducible rfl
        try go_simp
        refine wpAnyH_take (i := 5) (v := ?_) rfl (by kernel_rfl) (by kernel_rfl) (by kernel_rfl) (fun _ _ _ h => h) (Or.inl ⟨by rfl, ?_⟩) hHeld ?_
        rotate_left
        · intro wS hSw; obtain ⟨hS0, hS1⟩ := hSw; go_simp; try with_reducible rfl
        try go_simp
        refine wpAnyH_take (i := 6) (v := ?_) rfl (by kernel_rfl) (by kernel_rfl) (by kernel_rfl) (fun _ _ _ h => h) (Or.inl ⟨by rfl, ?_⟩) hHeld ?_
        rotate_left
        · intro wS hSw; obtain ⟨hS0, hS1⟩ := hSw; go_simp; try with_reducible rfl
        try go_simp
        refine wpAnyH_take (i := 7) (v := ?_) rfl (by kernel_rfl) (by kernel_rfl) (by kernel_rfl) (fun _ _ _ h => h) (Or.inl ⟨by rfl, ?_⟩) hHeld ?_
        rotate_left
        · intro wS hSw; obtain ⟨hS0, hS1⟩ := hSw; go_simp; try with_reducible rfl
        try go_simp
        refine wpAnyH_take (i := 8) (v := ?_) rfl (by kernel_rfl) (by kernel_rfl) (by kernel_rfl) (fun _ _ _ h => h) (Or.inl ⟨by rfl, ?_⟩) hHeld ?_
        rotate_left
        · intro wS hSw; obtain ⟨hS0, hS1⟩ := hSw; go_simp; try with_reducible rfl
        try go_simp
        refine wpAnyH_done (by kernel_rfl) ?_ _
        clear hHeld
        by_cases hxy : x = y
        · subst hxy
          go_wp2
          go_roundw
          case rel => exact ⟨k + 1, by omega, by go_num, (fun j hj => by
            by_cases e : j = k
            · subst e; rw [HXX.out, HYY.out]
            · exact HEQ.out j (by omega)), below_drawn HB.out⟩
          case measure => simp [intOf]; omega
        · have HNE := Lib.hid hxy
          go_wp2
          go_ret
          exact ⟨ret_bool (decide_eq_false (fun e => HNE.out (by rw [← HXX.out, ← HYY.out, e]))).symm, below_drawn HB.out⟩
      · obtain rfl : k = n := by omega
        go_wp2
        go_ret
        exact ⟨ret_bool (decide_eq_true (ext_getD (by rw [HX.out.1, HY.out.1]) (fun j hj => HEQ.out j (by rw [HX.out.1] at hj; exact hj)))).symm, HB.out⟩
  · have HN := Lib.hid hnm
    go_wp2
    go_ret
    exact ⟨ret_bool (decide_eq_false (fun e => HN.out (by rw [← HX.out.1, ← HY.out.1, e]))).symm, Below.refl _ _⟩

/-- Whether paths are few and short. -/
def fewB (n : Nat) (ps : List PathV) : Bool := ps.all (fun p => decide (p.len ≤ 20)) && decide (n ≤ 40)
set_option maxRecDepth 100000 in
set_option maxHeartbeats 4000000 in
theorem rfew_any (a : Option Addr) (len cap : Nat) (ps : List PathV) (w : World) (hl : RdP w a len ps) (hm : (len : Int) ≤ 9223372036854775807) :
    Calls Try.prog 21 #[.slice a len cap] w fun e w' => e = .returned (.bool (fewB len ps)) ∧ w' = w := by
  have HL := Lib.hid hl
  clear hl
  go_enter Try.func21, Try.ntmps21
  go_wp2
  go_loopw [3] (fun i wr => ∃ k : Nat, k ≤ len ∧ i = .int .i64 k ∧ (∀ j, j < k → (ps.getD j default).len ≤ 20) ∧ wr = w) (fun i _ => len - (intOf i).toNat)
  case atStart => exact ⟨0, Nat.zero_le _, rfl, fun j hj => absurd hj (Nat.not_lt_zero _), rfl⟩
  case round =>
    obtain ⟨k, hk, rfl, heq, rfl⟩ := hrel
    have HEQ := Lib.hid heq
    clear heq
    by_cases hlt : k < len
    · obtain ⟨ad, rfl, c0, c1, c2, hin⟩ := HL.out.2 k hlt
      obtain ⟨p, hp⟩ : ∃ p, ps.getD k default = p := ⟨_, rfl⟩
      rw [hp] at c0 c1 c2 hin
      have HP := Lib.hid hp
      have hpl := hin.2
      obtain ⟨pa, pl, pc, pls, pb, pu⟩ := p
      simp only at c0 c1 c2 hpl
      clear hp hin
      by_cases h20 : 20 < pl
      · have HF : RowKit.Hid (fewB len ps = false) := Lib.hid (by
          unfold fewB
          rw [Bool.and_eq_false_iff]
          refine .inl ?_
          rw [← Bool.not_eq_true, List.all_eq_true]
          intro h
          have hkl : k < ps.length := by rw [HL.out.1]; exact hlt
          have h2 := h (ps.getD k default) (by rw [List.getD_eq_getElem?_getD, List.getElem?_eq_getElem hkl]; exact List.getElem_mem _)
          rw [HP.out] at h2
          simp only [decide_eq_true_eq] at h2
          omega)
        go_wp2
        go_ret
        exact ⟨ret_bool HF.out.symm, rfl⟩
      · go_wp2
        go_roundw
        case rel => exact ⟨k + 1, by omega, by go_num, (fun j hj => by
          by_cases e : j = k
          · subst e; rw [HP.out]; show pl ≤ 20; omega
          · exact HEQ.out j (by omega)), trivial⟩
        case measure => simp [intOf]; omega
    · obtain rfl : k = len := by omega
      have HF : RowKit.Hid (fewB k ps = decide (k ≤ 40)) := Lib.hid (by
        unfold fewB
        rw [List.all_eq_true.2 (fun p hp => by
          obtain ⟨j, hj, e⟩ := List.getElem_of_mem hp
          have := HEQ.out j (by rw [← HL.out.1]; exact hj)
          rw [List.getD_eq_getElem?_getD, List.getElem?_eq_getElem hj, ← e] at *
          simpa using this)]
        simp)
      go_wp2
      go_ret
      refine ⟨?_, rfl⟩
      rw [HF.out]
      refine ret_bool ?_
      rw [decide_eq_decide]
      omega
theorem few_any (la : Option Addr) (ln lc : Nat) (a : Option Addr) (len cap : Nat) (ps : List PathV) (w : World) (hl : RdP w a len ps) (hm : (len : Int) ≤ 9223372036854775807) :
    Calls Try.prog 11 #[.slice la ln lc, .slice a len cap] w fun e w' => e = .returned (.bool (decide (ln ≤ 20) && fewB len ps)) ∧ w' = w := by
  have HL := Lib.hid hl
  clear hl
  go_enter Try.func11, Try.ntmps11
  by_cases h : ln ≤ 20
  · go_wp2_with fail
    refine (rfew_any a len cap ps _ HL.out hm).mono ?_
    obtain ⟨f, hf⟩ : ∃ f, fewB len ps = f := ⟨_, rfl⟩
    rw [hf]
    rintro e w1 ⟨rfl, rfl⟩
    go_wp2
    go_ret
    exact ⟨ret_bool (by simp [h, hf]), rfl⟩
  · go_wp2
    go_ret
    exact ⟨ret_bool (by simp), rfl⟩
theorem rnext_any (a : Option Addr) (len cap : Nat) (ls : List Int) (back : Int) (up : Bool) (hop : Int) (w : World) (hl : RdI w .i64 a len ls) :
    Calls Try.prog 13 #[.agg #[.slice a len cap, .int .i64 back, .bool up], .int .i64 hop] w fun e w' => e = .returned (.tuple #[.int .i64 (Ro.next ls hop).1, .bool (Ro.next ls hop).2]) ∧ Below w.heap.size w w' := by
  have HL := Lib.hid hl
  clear hl
  have hz : ls.length = len := HL.out.1
  by_cases h0 : hop < 0
  · have HN : RowKit.Hid (Ro.next ls hop = (0, false)) := Lib.hid (by unfold Ro.next; rw [if_neg (by rw [Ro.inside_iff]; omega)])
    clear hz
    go_enter Try.func13, Try.ntmps13
    go_wp2
    exact bodyPost_ret (results_tmp2 rfl _ _ _) rfl ⟨by rw [HN.out]; rfl, below_new (Below.refl _ _) _⟩
  · obtain ⟨k, rfl⟩ : ∃ k : Nat, hop = k := ⟨hop.toNat, by omega⟩
    by_cases hk : k < len
    · obtain ⟨ad, rfl, hc⟩ := HL.out.2 k hk
      have hca : ∀ o, (w.alloc o).cell? (ad.add k) = some (.int .i64 (ls.getD k 0)) := fun o => below_cell_of (below_new (Below.refl _ _) o) hc
      have HN := Lib.hid (Ro.next_in ls k (by omega))
      clear hz hc
      go_enter Try.func13, Try.ntmps13
      go_wp2
      exact bodyPost_ret (results_tmp2 rfl _ _ _) rfl ⟨by rw [HN.out]; rfl, below_new (Below.refl _ _) _⟩
    · have HN := Lib.hid (Ro.next_out ls k (by omega))
      clear hz
      go_enter Try.func13, Try.ntmps13
      go_wp2
      exact bodyPost_ret (results_tmp2 rfl _ _ _) rfl ⟨by rw [HN.out]; rfl, below_new (Below.refl _ _) _⟩
end Go.Proofs.Ytjjplcjinhcpiaa
