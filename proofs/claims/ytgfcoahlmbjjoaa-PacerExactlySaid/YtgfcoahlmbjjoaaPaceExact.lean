/- The statement on packets that are sent one after the other, each as soon as the pacer is ready: it returns true, whatever the input, and leaves what was in memory alone. -/
import Derived.Test.YtgfcoahlmbjjoaaPaceSizes
import Derived.Deep.RegionHeld
namespace Go.Proofs.Ytgfcoahlmbjjoaa
open Go.RowKit

/-- 1000 times the bytes of the first k packets. -/
def sumTo (zs : List Int) (k : Nat) : Int := 1000 * ((zs.take k).map szOf).sum
theorem sumTo_zero (zs : List Int) : sumTo zs 0 = 0 := rfl
theorem sumTo_succ (zs : List Int) (k : Nat) (hk : k < zs.length) : sumTo zs (k + 1) = sumTo zs k + 1000 * szOf (zs.getD k 0) := by
  unfold sumTo
  rw [List.take_add_one, List.getD_eq_getElem?_getD, List.getElem?_eq_getElem hk, List.map_append, List.sum_append]
  simp
  omega
theorem sumTo_bd (zs : List Int) (k : Nat) : 0 ≤ sumTo zs k ∧ sumTo zs k ≤ 10000000 * (k : Int) := by
  induction k with
  | zero => rw [sumTo_zero]; simp
  | succ k ih =>
    by_cases hk : k < zs.length
    · have := szOf_bd (zs.getD k 0)
      rw [sumTo_succ zs k hk]
      omega
    · have : sumTo zs (k + 1) = sumTo zs k := by unfold sumTo; rw [List.take_of_length_le (by omega), List.take_of_length_le (by omega)]
      rw [this]
      omega

set_option maxHeartbeats 2000000 in
set_option maxRecDepth 100000 in
theorem exactly_time (begin rate : Int) (a : Option Addr) (len cap : Nat) (w : World) (h : Pc.timeB begin = false) : Calls Try.prog 4 #[.int .i64 begin, .int .i64 rate, .slice a len cap] w fun e w' => e = .returned (.bool true) ∧ Below w.heap.size w w' := by
  have HT := Lib.hid h
  clear h
  go_enter Try.func4, Try.ntmps4
  go_wp2_with fail
  refine (head_ok _).mono ?_
  rintro e w1 ⟨rfl, hb_w1⟩
  have hB_w1 : Below w.heap.size w w1 := below_on (by (repeat (first | exact Below.refl _ _ | refine below_drawn ?_ | refine below_drawnN ?_ _ | refine below_new ?_ _))) hb_w1
  have hz_w1 := hb_w1.size
  try simp only [World.size_setCell] at hz_w1
  try simp only [World.size_drew] at hz_w1
  try simp only [World.size_drewN] at hz_w1
  try simp only [World.size_alloc] at hz_w1
  try simp only [World.size_setCell] at hz_w1
  try simp only [World.size_drew] at hz_w1
  try simp only [World.size_drewN] at hz_w1
  try simp only [World.size_alloc] at hz_w1
  go_wp2_with fail
  refine (rtime_any begin _).mono ?_
  rw [HT.out]
  rintro e w2 ⟨rfl, rfl⟩
  go_wp2
  go_ret
  exact ⟨rfl, hB_w1⟩
set_option maxHeartbeats 2000000 in
set_option maxRecDepth 100000 in
theorem exactly_rate (begin rate : Int) (a : Option Addr) (len cap : Nat) (w : World) (h : Pc.timeB begin = true) (k : Pc.rateB rate = false) : Calls Try.prog 4 #[.int .i64 begin, .int .i64 rate, .slice a len cap] w fun e w' => e = .returned (.bool true) ∧ Below w.heap.size w w' := by
  have HT := Lib.hid h
  have HR := Lib.hid k
  clear h k
  go_enter Try.func4, Try.ntmps4
  go_wp2_with fail
  refine (head_ok _).mono ?_
  rintro e w1 ⟨rfl, hb_w1⟩
  have hB_w1 : Below w.heap.size w w1 := below_on (by (repeat (first | exact Below.refl _ _ | refine below_drawn ?_ | refine below_drawnN ?_ _ | refine below_new ?_ _))) hb_w1
  have hz_w1 := hb_w1.size
  try simp only [World.size_setCell] at hz_w1
  try simp only [World.size_drew] at hz_w1
  try simp only [World.size_drewN] at hz_w1
  try simp only [World.size_alloc] at hz_w1
  try simp only [World.size_setCell] at hz_w1
  try simp only [World.size_drew] at hz_w1
  try simp only [World.size_drewN] at hz_w1
  try simp only [World.size_alloc] at hz_w1
  go_wp2_with fail
  refine (rtime_any begin _).mono ?_
  rw [HT.out]
  rintro e w2 ⟨rfl, rfl⟩
  go_wp2_with fail
  refine (rrate_any rate _).mono ?_
  rw [HR.out]
  rintro e w2 ⟨rfl, rfl⟩
  go_wp2
  go_ret
  exact ⟨rfl, hB_w1⟩
set_option maxHeartbeats 2000000 in
set_option maxRecDepth 100000 in
theorem exactly_long (begin rate : Int) (a : Option Addr) (len cap : Nat) (w : World) (h : Pc.timeB begin = true) (k : Pc.rateB rate = true) (hl : 100 < len) : Calls Try.prog 4 #[.int .i64 begin, .int .i64 rate, .slice a len cap] w fun e w' => e = .returned (.bool true) ∧ Below w.heap.size w w' := by
  have HT := Lib.hid h
  have HR := Lib.hid k
  clear h k
  go_enter Try.func4, Try.ntmps4
  go_wp2_with fail
  refine (head_ok _).mono ?_
  rintro e w1 ⟨rfl, hb_w1⟩
  have hB_w1 : Below w.heap.size w w1 := below_on (by (repeat (first | exact Below.refl _ _ | refine below_drawn ?_ | refine below_drawnN ?_ _ | refine below_new ?_ _))) hb_w1
  have hz_w1 := hb_w1.size
  try simp only [World.size_setCell] at hz_w1
  try simp only [World.size_drew] at hz_w1
  try simp only [World.size_drewN] at hz_w1
  try simp only [World.size_alloc] at hz_w1
  try simp only [World.size_setCell] at hz_w1
  try simp only [World.size_drew] at hz_w1
  try simp only [World.size_drewN] at hz_w1
  try simp only [World.size_alloc] at hz_w1
  go_wp2_with fail
  refine (rtime_any begin _).mono ?_
  rw [HT.out]
  rintro e w2 ⟨rfl, rfl⟩
  go_wp2_with fail
  refine (rrate_any rate _).mono ?_
  rw [HR.out]
  rintro e w2 ⟨rfl, rfl⟩
  go_wp2
  go_ret
  exact ⟨rfl, hB_w1⟩
set_option maxHeartbeats 2000000 in
set_option maxRecDepth 100000 in
theorem exactly_walk (begin rate : Int) (a : Option Addr) (len cap : Nat) (zs : List Int) (w : World) (h : Pc.timeB begin = true) (k : Pc.rateB rate = true) (hl : len ≤ 100) (hz : RdI w .u16 a len zs) (hbd : ∀ z, z ∈ zs → 0 ≤ z ∧ z ≤ 65535) : Calls Try.prog 4 #[.int .i64 begin, .int .i64 rate, .slice a len cap] w fun e w' => e = .returned (.bool true) ∧ Below w.heap.size w w' := by
  obtain ⟨hb0, hb1⟩ := (Pc.timeB_iff begin).1 h
  obtain ⟨hr0, hr1⟩ := (Pc.rateB_iff rate).1 k
  have HT := Lib.hid h
  have HR := Lib.hid k
  have HZ := Lib.hid hz
  have HBD := Lib.hid hbd
  have HL := Lib.hid hz.1
  clear h k hz hbd
  go_enter Try.func4, Try.ntmps4
  go_wp2_with fail
  refine (head_ok _).mono ?_
  rintro e w1 ⟨rfl, hb_w1⟩
  have hB_w1 : Below w.heap.size w w1 := below_on (by (repeat (first | exact Below.refl _ _ | refine below_drawn ?_ | refine below_drawnN ?_ _ | refine below_new ?_ _))) hb_w1
  have hz_w1 := hb_w1.size
  try simp only [World.size_setCell] at hz_w1
  try simp only [World.size_drew] at hz_w1
  try simp only [World.size_drewN] at hz_w1
  try simp only [World.size_alloc] at hz_w1
  try simp only [World.size_setCell] at hz_w1
  try simp only [World.size_drew] at hz_w1
  try simp only [World.size_drewN] at hz_w1
  try simp only [World.size_alloc] at hz_w1
  go_wp2_with fail
  refine (rtime_any begin _).mono ?_
  rw [HT.out]
  rintro e w2 ⟨rfl, rfl⟩
  go_wp2_with fail
  refine (rrate_any rate _).mono ?_
  rw [HR.out]
  rintro e w2 ⟨rfl, rfl⟩
  go_wp2_with fail
  refine (sizes_any a len cap zs _ hl (HZ.out.below hB_w1) HBD.out).mono ?_
  rintro e w2 ⟨⟨A, c, rfl, hrd⟩, hb_w2⟩
  have HRD := Lib.hid hrd
  have hB_w2 : Below w.heap.size w w2 := below_on hB_w1 hb_w2
  clear hrd
  go_wp2
  go_loopw [11, 12] (fun sm i wr => ∃ k : Nat, k ≤ len ∧ i = .int .i64 k ∧ sm = .int .i64 (sumTo zs k) ∧ wr.cell? ⟨w2.heap.size, 0, none⟩ = some (.int .i64 (begin + sumTo zs k / rate)) ∧ wr.cell? ⟨w2.heap.size, 1, none⟩ = some (.int .i64 (sumTo zs k % rate)) ∧
      wr.frozen? ⟨w2.heap.size, 0, none⟩ = false ∧ wr.frozen? ⟨w2.heap.size, 1, none⟩ = false ∧ w2.heap.size < wr.heap.size ∧ Below w2.heap.size w2 wr) (fun _ i _ => len - (intOf i).toNat)
  case atStart => exact ⟨0, Nat.zero_le _, rfl, rfl, by rw [sumTo_zero]; simp, by rw [sumTo_zero]; simp, by go_simp, by go_simp, by simp, below_new (Below.refl _ _) _⟩
  case round =>
    obtain ⟨k, hk, rfl, rfl, p0, p1, f0, f1, hsz, hB⟩ := hrel
    have HB := Lib.hid hB
    clear hB
    have hS := sumTo_bd zs k
    obtain ⟨hS0, hS1⟩ := hS
    by_cases hlt : k < len
    · obtain ⟨ad, rfl, l0⟩ := (HRD.out.below HB.out).2 k hlt
      have hss := szOf_bd (zs.getD k 0)
      have hsu := sumTo_succ zs k (by have := HL.out; omega)
      have hgd : (zs.map szOf).getD k 0 = szOf (zs.getD k 0) := by
        have := HL.out
        rw [List.getD_eq_getElem?_getD, List.getD_eq_getElem?_getD, List.getElem?_map, List.getElem?_eq_getElem (by omega)]
        rfl
      rw [hgd] at l0
      have hlb : ad.block < w2.heap.size := by
        obtain ⟨ad', e', hc'⟩ := HRD.out.2 k hlt
        have hx := World.block_lt_of_cell? _ _ hc'
        have e2 : ad' = ad := by injection e' with e'; exact e'.symm
        subst e2
        have e3 : (ad'.add k).block = ad'.block := by unfold Addr.add; split <;> rfl
        rw [e3] at hx
        exact hx
      generalize szOf (zs.getD k 0) = s at hss hsu l0 hgd
      obtain ⟨hs0, hs1⟩ := hss
      generalize hSk : sumTo zs k = S at *
      have HSU := Lib.hid hsu
      have hq0 : 0 ≤ S / rate := Int.ediv_nonneg (by omega) (by omega)
      by_cases hfar : 20000000 < begin + S / rate
      · clear hgd hSk hsu
        go_wp2
        go_ret
        exact ⟨rfl, below_on hB_w2 HB.out⟩
      · have hst := Pc.exact_step (b := begin) (sum := S) (s := s) (rate := rate) hb0 ⟨hr0, hr1⟩ ⟨hs0, hs1⟩ hS0 (by omega)
        have HST := Lib.hid hst
        have hd0 : 0 ≤ (S + 1000 * s) / rate := Int.ediv_nonneg (by omega) (by omega)
        have hd1 : (S + 1000 * s) / rate ≤ S + 1000 * s := Int.ediv_le_self _ (by omega)
        have hdv : IntKind.i64.wrap ((S + 1000 * s).tdiv rate) = (S + 1000 * s) / rate := by rw [Int.tdiv_eq_ediv_of_nonneg (by omega)]; exact IntWalk.i64_in _ ⟨by omega, by omega⟩
        have hsm : IntKind.i64.wrap (begin + (S + 1000 * s) / rate) = begin + (S + 1000 * s) / rate := IntWalk.i64_in _ ⟨by omega, by omega⟩
        have hrm : (S + 1000 * s).tmod rate = (S + 1000 * s) % rate := Int.tmod_eq_emod_of_nonneg (by omega)
        have hne : ¬ rate = 0 := by omega
        have DV := Lib.hid hdv
        have SM := Lib.hid hsm
        have RM := Lib.hid hrm
        clear hgd hSk hsu hst hdv hsm hrm
        go_wp2
        refine wp_region_held_drew (S := (fun W => W.cell? ⟨w2.heap.size, 0, none⟩ = some (.int .i64 (begin + S / rate)) ∧ W.cell? ⟨w2.heap.size, 1, none⟩ = some (.int .i64 (S % rate)) ∧ W.cell? (ad.add k) = some (.int .i64 s) ∧ Below wr.heap.size wr W)) (by kernel_rfl) ?_ (fun hHeld => ?_)
        · refine ⟨below_cell_of (w := wr) ?_ p0, below_cell_of (w := wr) ?_ p1, below_cell_of (w := wr) ?_ l0, ?_⟩ <;> (repeat (first | assumption | exact Below.refl _ _ | refine below_set ?_ (by first | omega | (simp; done) | (simp; omega)) _ | refine below_drawn ?_ | refine below_drawnN ?_ _ | refine below_new ?_ _))
        refine wpAnyH_take (i := 0) (v := ?_) rfl (by kernel_rfl) (by kernel_rfl) (by kernel_rfl) (fun _ _ _ h => h) (Or.inl ⟨by rfl, ?_⟩) hHeld ?_
        rotate_left
        · intro w hSw; obtain ⟨hS0, hS1, hS2, hS3⟩ := hSw; go_simp; try with_reducible rfl
        try go_simp
        refine wpAnyH_take (i := 1) (v := ?_) rfl (by kernel_rfl) (by kernel_rfl) (by kernel_rfl) (fun _ _ _ h => h) (Or.inl ⟨by rfl, ?_⟩) hHeld ?_
        rotate_left
        · intro w hSw; obtain ⟨hS0, hS1, hS2, hS3⟩ := hSw; go_simp; try with_reducible rfl
        try go_simp
        refine wpAnyH_take (i := 2) (v := ?_) rfl (by kernel_rfl) (by kernel_rfl) (by kernel_rfl) (fun _ _ _ h => h) (Or.inl ⟨by rfl, ?_⟩) hHeld ?_
        rotate_left
        · intro w hSw; obtain ⟨hS0, hS1, hS2, hS3⟩ := hSw; go_simp; try with_reducible rfl
        try go_simp
        refine wpAnyH_take (i := 3) (v := ?_) rfl (by kernel_rfl) (by kernel_rfl) (by kernel_rfl) (fun _ _ _ h => h) (Or.inl ⟨by rfl, ?_⟩) hHeld ?_
        rotate_left
        · intro w hSw; obtain ⟨hS0, hS1, hS2, hS3⟩ := hSw; go_simp; try with_reducible rfl
        try go_simp
        refine wpAnyH_take (i := 4) (v := ?_) rfl (by kernel_rfl) (by kernel_rfl) (by kernel_rfl) (fun _ _ _ h => h) (Or.inl ⟨by rfl, ?_⟩) hHeld ?_
        rotate_left
        · intro w hSw; obtain ⟨hS0, hS1, hS2, hS3⟩ := hSw; go_simp; try with_reducible rfl
        try go_simp
        refine wpAnyH_take (i := 5) (v := ?_) rfl (by kernel_rfl) (by kernel_rfl) (by kernel_rfl) (fun _ _ _ h => h) (Or.inl ⟨by rfl, ?_⟩) hHeld ?_
        rotate_left
        · intro w hSw; obtain ⟨hS0, hS1, hS2, hS3⟩ := hSw; go_simp; try with_reducible rfl
        try go_simp
        refine wpAnyH_take (i := 6) (v := ?_) rfl (by kernel_rfl) (by kernel_rfl) (by kernel_rfl) (fun _ _ _ h => h) (Or.inl ⟨by rfl, ?_⟩) hHeld ?_
        rotate_left
        · intro w hSw; obtain ⟨hS0, hS1, hS2, hS3⟩ := hSw; go_simp; try with_reducible rfl
        try go_simp
        refine wpAnyH_take (i := 7) (v := ?_) rfl (by kernel_rfl) (by kernel_rfl) (by kernel_rfl) (fun _ _ _ h => h) (Or.inl ⟨by rfl, ?_⟩) hHeld ?_
        rotate_left
        · intro w hSw; obtain ⟨hS0, hS1, hS2, hS3⟩ := hSw; go_simp; try with_reducible rfl
        try go_simp
        refine wpAnyH_ready (rs := [8, 12]) (by kernel_rfl) (by simp) ?_
        refine AllReadyH.cons rfl (fun K hK => ?_) (AllReadyH.cons rfl (fun K hK => ?_) AllReadyH.nil)
        · go_simp
          refine (send_any _ _ _ _ _ _).mono ?_
          rw [HST.out]
          rintro e x ⟨rfl, hb_x⟩
          have hB_x : Below wr.heap.size wr x := below_on (by (repeat (first | assumption | exact Below.refl _ _ | refine below_set ?_ (by first | omega | (simp; done) | (simp; omega)) _ | refine below_drawn ?_ | refine below_drawnN ?_ _ | refine below_new ?_ _))) hb_x
          have hzx := hb_x.size
          try simp only [World.size_drew] at hzx
          try simp only [World.size_alloc] at hzx
          have hlx : wr.heap.size ≤ x.heap.size := by omega
          refine hK.out _ _ ?_ (fun hHeld => ?_)
          · refine ⟨below_cell_of (w := wr) ?_ p0, below_cell_of (w := wr) ?_ p1, below_cell_of (w := wr) ?_ l0, ?_⟩ <;> (repeat (first | assumption | exact Below.refl _ _ | refine below_set ?_ (by first | omega | (simp; done) | (simp; omega)) _ | refine below_drawn ?_ | refine below_drawnN ?_ _ | refine below_new ?_ _))
          clear hK K
          try go_simp
          refine wpAnyH_take (i := 9) (v := ?_) rfl (by kernel_rfl) (by kernel_rfl) (by kernel_rfl) (fun _ _ _ h => h) (Or.inl ⟨by rfl, ?_⟩) hHeld ?_
          rotate_left
          · intro w hSw; obtain ⟨hS0, hS1, hS2, hS3⟩ := hSw; go_simp; try with_reducible rfl
          try go_simp
          refine wpAnyH_take (i := 10) (v := ?_) rfl (by kernel_rfl) (by kernel_rfl) (by kernel_rfl) (fun _ _ _ h => h) (Or.inl ⟨by rfl, ?_⟩) hHeld ?_
          rotate_left
          · intro w hSw; obtain ⟨hS0, hS1, hS2, hS3⟩ := hSw; go_simp; try with_reducible rfl
          try go_simp
          refine wpAnyH_take (i := 11) (v := ?_) rfl (by kernel_rfl) (by kernel_rfl) (by kernel_rfl) (fun _ _ _ h => h) (Or.inl ⟨by rfl, ?_⟩) hHeld ?_
          rotate_left
          · intro w hSw; obtain ⟨hS0, hS1, hS2, hS3⟩ := hSw; go_simp; try with_reducible rfl
          try go_simp
          refine wpAnyH_ready (rs := [12]) (by kernel_rfl) (by simp) ?_
          refine AllReadyH.cons rfl (fun K hK => ?_) AllReadyH.nil
          go_simp
          refine hK.out _ _ ?_ (fun hHeld => ?_)
          · refine ⟨below_cell_of (w := wr) ?_ p0, below_cell_of (w := wr) ?_ p1, below_cell_of (w := wr) ?_ l0, ?_⟩ <;> (repeat (first | assumption | exact Below.refl _ _ | refine below_set ?_ (by first | omega | (simp; done) | (simp; omega)) _ | refine below_drawn ?_ | refine below_drawnN ?_ _ | refine below_new ?_ _))
          clear hK K
          try go_simp
          refine wpAnyH_ready (rs := [13]) (by kernel_rfl) (by simp) ?_
          refine AllReadyH.cons rfl (fun K hK => ?_) AllReadyH.nil
          go_simp
          refine hK.out _ _ ?_ (fun hHeld => ?_)
          · refine ⟨below_cell_of (w := wr) ?_ p0, below_cell_of (w := wr) ?_ p1, below_cell_of (w := wr) ?_ l0, ?_⟩ <;> (repeat (first | assumption | exact Below.refl _ _ | refine below_set ?_ (by first | omega | (simp; done) | (simp; omega)) _ | refine below_drawn ?_ | refine below_drawnN ?_ _ | refine below_new ?_ _))
          clear hK K
          try go_simp
          refine wpAnyH_take (i := 14) (v := ?_) rfl (by kernel_rfl) (by kernel_rfl) (by kernel_rfl) (fun _ _ _ h => h) (Or.inl ⟨by rfl, ?_⟩) hHeld ?_
          rotate_left
          · intro w hSw; obtain ⟨hS0, hS1, hS2, hS3⟩ := hSw; go_simp; try with_reducible rfl
          try go_simp
          refine wpAnyH_done (by kernel_rfl) ?_ _
          go_wp2
          refine wp_region_held_drew (S := (fun W => W.cell? ⟨x.heap.size, 0, none⟩ = some (.int .i64 (begin + (S + 1000 * s) / rate)) ∧ W.cell? ⟨x.heap.size, 1, none⟩ = some (.int .i64 ((S + 1000 * s) % rate)) ∧ W.cell? ⟨w2.heap.size, 0, none⟩ = some (.int .i64 (begin + S / rate)) ∧ W.cell? ⟨w2.heap.size, 1, none⟩ = some (.int .i64 (S % rate)) ∧ W.frozen? ⟨w2.heap.size, 0, none⟩ = false ∧ W.frozen? ⟨w2.heap.size, 1, none⟩ = false ∧ Below wr.heap.size wr W)) (by kernel_rfl) ?_ (fun hHeld => ?_)
          · obtain ⟨g0, g1, g2, hBW⟩ := hHeld
            have hBV := below_drawn hBW
            exact ⟨by go_simp, by go_simp, g0, g1, below_frozen_of hBV hsz f0, below_frozen_of hBV hsz f1, hBV⟩
          refine wpAnyH_take (i := 0) (v := ?_) rfl (by kernel_rfl) (by kernel_rfl) (by kernel_rfl) (fun _ _ _ h => h) (Or.inl ⟨by rfl, ?_⟩) hHeld ?_
          rotate_left
          · intro w hSw; obtain ⟨hS0, hS1, hS2, hS3, hS4⟩ := hSw; go_simp; (try simp only [DV.out]); (try simp only [SM.out]); (try simp only [RM.out]); try with_reducible rfl
          try go_simp
          refine wpAnyH_take (i := 1) (v := ?_) rfl (by kernel_rfl) (by kernel_rfl) (by kernel_rfl) (fun _ _ _ h => h) (Or.inl ⟨by rfl, ?_⟩) hHeld ?_
          rotate_left
          · intro w hSw; obtain ⟨hS0, hS1, hS2, hS3, hS4⟩ := hSw; go_simp; (try simp only [DV.out]); (try simp only [SM.out]); (try simp only [RM.out]); try with_reducible rfl
          try go_simp
          refine wpAnyH_take (i := 2) (v := ?_) rfl (by kernel_rfl) (by kernel_rfl) (by kernel_rfl) (fun _ _ _ h => h) (Or.inl ⟨by rfl, ?_⟩) hHeld ?_
          rotate_left
          · intro w hSw; obtain ⟨hS0, hS1, hS2, hS3, hS4⟩ := hSw; go_simp; (try simp only [DV.out]); (try simp only [SM.out]); (try simp only [RM.out]); try with_reducible rfl
          try go_simp
          refine wpAnyH_take (i := 3) (v := ?_) rfl (by kernel_rfl) (by kernel_rfl) (by kernel_rfl) (fun _ _ _ h => h) (Or.inl ⟨by rfl, ?_⟩) hHeld ?_
          rotate_left
          · intro w hSw; obtain ⟨hS0, hS1, hS2, hS3, hS4⟩ := hSw; go_simp; (try simp only [DV.out]); (try simp only [SM.out]); (try simp only [RM.out]); try with_reducible rfl
          try go_simp
          refine wpAnyH_take (i := 4) (v := ?_) rfl (by kernel_rfl) (by kernel_rfl) (by kernel_rfl) (fun _ _ _ h => h) (Or.inl ⟨by rfl, ?_⟩) hHeld ?_
          rotate_left
          · intro w hSw; obtain ⟨hS0, hS1, hS2, hS3, hS4⟩ := hSw; go_simp; (try simp only [DV.out]); (try simp only [SM.out]); (try simp only [RM.out]); try with_reducible rfl
          try go_simp
          refine wpAnyH_take (i := 5) (v := ?_) rfl (by kernel_rfl) (by kernel_rfl) (by kernel_rfl) (fun _ _ _ h => h) (Or.inl ⟨by rfl, ?_⟩) hHeld ?_
          rotate_left
          · intro w hSw; obtain ⟨hS0, hS1, hS2, hS3, hS4⟩ := hSw; go_simp; (try simp only [DV.out]); (try simp only [SM.out]); (try simp only [RM.out]); try with_reducible rfl
          try go_simp
          refine wpAnyH_take (i := 6) (v := ?_) rfl (by kernel_rfl) (by kernel_rfl) (by kernel_rfl) (fun _ _ _ h => h) (Or.inl ⟨by rfl, ?_⟩) hHeld ?_
          rotate_left
          · intro w hSw; obtain ⟨hS0, hS1, hS2, hS3, hS4⟩ := hSw; go_simp; (try simp only [DV.out]); (try simp only [SM.out]); (try simp only [RM.out]); try with_reducible rfl
          try go_simp
          refine wpAnyH_take (i := 7) (v := ?_) rfl (by kernel_rfl) (by kernel_rfl) (by kernel_rfl) (fun _ _ _ h => h) (Or.inl ⟨by rfl, ?_⟩) hHeld ?_
          rotate_left
          · intro w hSw; obtain ⟨hS0, hS1, hS2, hS3, hS4⟩ := hSw; go_simp; (try simp only [DV.out]); (try simp only [SM.out]); (try simp only [RM.out]); try with_reducible rfl
          try go_simp
          refine wpAnyH_take (i := 8) (v := ?_) rfl (by kernel_rfl) (by kernel_rfl) (by kernel_rfl) (fun _ _ _ h => h) (Or.inl ⟨by rfl, ?_⟩) hHeld ?_
          rotate_left
          · intro w hSw; obtain ⟨hS0, hS1, hS2, hS3, hS4⟩ := hSw; go_simp; (try simp only [DV.out]); (try simp only [SM.out]); (try simp only [RM.out]); try with_reducible rfl
          try go_simp
          refine wpAnyH_take (i := 9) (v := ?_) rfl (by kernel_rfl) (by kernel_rfl) (by kernel_rfl) (fun _ _ _ h => h) (Or.inl ⟨by rfl, ?_⟩) hHeld ?_
          rotate_left
          · intro w hSw; obtain ⟨hS0, hS1, hS2, hS3, hS4⟩ := hSw; go_simp; (try simp only [DV.out]); (try simp only [SM.out]); (try simp only [RM.out]); try with_reducible rfl
          try go_simp
          refine wpAnyH_take (i := 10) (v := ?_) rfl (by kernel_rfl) (by kernel_rfl) (by kernel_rfl) (fun _ _ _ h => h) (Or.inl ⟨by rfl, ?_⟩) hHeld ?_
          rotate_left
          · intro w hSw; obtain ⟨hS0, hS1, hS2, hS3, hS4⟩ := hSw; go_simp; (try simp only [DV.out]); (try simp only [SM.out]); (try simp only [RM.out]); try with_reducible rfl
          try go_simp
          refine wpAnyH_take (i := 11) (v := ?_) rfl (by kernel_rfl) (by kernel_rfl) (by kernel_rfl) (fun _ _ _ h => h) (Or.inl ⟨by rfl, ?_⟩) hHeld ?_
          rotate_left
          · intro w hSw; obtain ⟨hS0, hS1, hS2, hS3, hS4⟩ := hSw; go_simp; (try simp only [DV.out]); (try simp only [SM.out]); (try simp only [RM.out]); try with_reducible rfl
          try go_simp
          refine wpAnyH_take (i := 12) (v := ?_) rfl (by kernel_rfl) (by kernel_rfl) (by kernel_rfl) (fun _ _ _ h => h) (Or.inl ⟨by rfl, ?_⟩) hHeld ?_
          rotate_left
          · intro w hSw; obtain ⟨hS0, hS1, hS2, hS3, hS4⟩ := hSw; go_simp; (try simp only [DV.out]); (try simp only [SM.out]); (try simp only [RM.out]); try with_reducible rfl
          try go_simp
          refine wpAnyH_take (i := 13) (v := ?_) rfl (by kernel_rfl) (by kernel_rfl) (by kernel_rfl) (fun _ _ _ h => h) (Or.inl ⟨by rfl, ?_⟩) hHeld ?_
          rotate_left
          · intro w hSw; obtain ⟨hS0, hS1, hS2, hS3, hS4⟩ := hSw; go_simp; (try simp only [DV.out]); (try simp only [SM.out]); (try simp only [RM.out]); try with_reducible rfl
          try go_simp
          refine wpAnyH_take (i := 14) (v := ?_) rfl (by kernel_rfl) (by kernel_rfl) (by kernel_rfl) (fun _ _ _ h => h) (Or.inl ⟨by rfl, ?_⟩) hHeld ?_
          rotate_left
          · intro w hSw; obtain ⟨hS0, hS1, hS2, hS3, hS4⟩ := hSw; go_simp; (try simp only [DV.out]); (try simp only [SM.out]); (try simp only [RM.out]); try with_reducible rfl
          try go_simp
          refine wpAnyH_take (i := 15) (v := ?_) rfl (by kernel_rfl) (by kernel_rfl) (by kernel_rfl) (fun _ _ _ h => h) (Or.inl ⟨by rfl, ?_⟩) hHeld ?_
          rotate_left
          · intro w hSw; obtain ⟨hS0, hS1, hS2, hS3, hS4⟩ := hSw; go_simp; (try simp only [DV.out]); (try simp only [SM.out]); (try simp only [RM.out]); try with_reducible rfl
          try go_simp
          refine wpAnyH_take (i := 16) (v := ?_) rfl (by kernel_rfl) (by kernel_rfl) (by kernel_rfl) (fun _ _ _ h => h) (Or.inl ⟨by rfl, ?_⟩) hHeld ?_
          rotate_left
          · intro w hSw; obtain ⟨hS0, hS1, hS2, hS3, hS4⟩ := hSw; go_simp; (try simp only [DV.out]); (try simp only [SM.out]); (try simp only [RM.out]); try with_reducible rfl
          try go_simp
          refine wpAnyH_take (i := 17) (v := ?_) rfl (by kernel_rfl) (by kernel_rfl) (by kernel_rfl) (fun _ _ _ h => h) (Or.inl ⟨by rfl, ?_⟩) hHeld ?_
          rotate_left
          · intro w hSw; obtain ⟨hS0, hS1, hS2, hS3, hS4⟩ := hSw; go_simp; (try simp only [DV.out]); (try simp only [SM.out]); (try simp only [RM.out]); try with_reducible rfl
          try go_simp
          refine wpAnyH_take (i := 18) (v := ?_) rfl (by kernel_rfl) (by kernel_rfl) (by kernel_rfl) (fun _ _ _ h => h) (Or.inl ⟨by rfl, ?_⟩) hHeld ?_
          rotate_left
          · intro w hSw; obtain ⟨hS0, hS1, hS2, hS3, hS4⟩ := hSw; go_simp; (try simp only [DV.out]); (try simp only [SM.out]); (try simp only [RM.out]); try with_reducible rfl
          try go_simp
          refine wpAnyH_take (i := 19) (v := ?_) rfl (by kernel_rfl) (by kernel_rfl) (by kernel_rfl) (fun _ _ _ h => h) (Or.inl ⟨by rfl, ?_⟩) hHeld ?_
          rotate_left
          · intro w hSw; obtain ⟨hS0, hS1, hS2, hS3, hS4⟩ := hSw; go_simp; (try simp only [DV.out]); (try simp only [SM.out]); (try simp only [RM.out]); try with_reducible rfl
          try go_simp
          refine wpAnyH_done (by kernel_rfl) ?_ _
          obtain ⟨g0, g1, g2, g3, g4, g5, hBW⟩ := hHeld
          simp only [World.frozen?_drew, World.cell?_drew] at g0 g1 g2 g3 g4 g5
          go_wp2
          go_roundw
          case rel =>
            refine ⟨k + 1, by omega, by go_num, by rw [HSU.out], ?_, ?_, ?_, ?_, ?_, ?_⟩
            · rw [HSU.out]; go_simp
            · rw [HSU.out]; go_simp
            · go_simp
            · go_simp
            · have := hBW.size; simp at this ⊢; omega
            · exact below_drawn (below_set (below_set (below_on HB.out (below_undrew hBW)) (Nat.le_refl _) _) (Nat.le_refl _) _)
          case measure => simp [intOf]; omega
        · go_simp
          refine hK.out _ _ ?_ (fun hHeld => ?_)
          · refine ⟨below_cell_of (w := wr) ?_ p0, below_cell_of (w := wr) ?_ p1, below_cell_of (w := wr) ?_ l0, ?_⟩ <;> (repeat (first | assumption | exact Below.refl _ _ | refine below_set ?_ (by first | omega | (simp; done) | (simp; omega)) _ | refine below_drawn ?_ | refine below_drawnN ?_ _ | refine below_new ?_ _))
          clear hK K
          try go_simp
          refine wpAnyH_ready (rs := [8]) (by kernel_rfl) (by simp) ?_
          refine AllReadyH.cons rfl (fun K hK => ?_) AllReadyH.nil
          go_simp
          refine (send_any _ _ _ _ _ _).mono ?_
          rw [HST.out]
          rintro e x ⟨rfl, hb_x⟩
          have hB_x : Below wr.heap.size wr x := below_on (by (repeat (first | assumption | exact Below.refl _ _ | refine below_set ?_ (by first | omega | (simp; done) | (simp; omega)) _ | refine below_drawn ?_ | refine below_drawnN ?_ _ | refine below_new ?_ _))) hb_x
          have hzx := hb_x.size
          try simp only [World.size_drew] at hzx
          try simp only [World.size_alloc] at hzx
          have hlx : wr.heap.size ≤ x.heap.size := by omega
          have q0 : x.cell? ⟨wr.heap.size, 0, none⟩ = some (.int .i64 0) := below_cell_of hb_x (by go_simp)
          have q1 : x.cell? ⟨wr.heap.size, 1, none⟩ = some (.int .i64 0) := below_cell_of hb_x (by go_simp)
          have fq0 : x.frozen? ⟨wr.heap.size, 0, none⟩ = false := below_frozen_of hb_x (by simp) (by go_simp)
          have fq1 : x.frozen? ⟨wr.heap.size, 1, none⟩ = false := below_frozen_of hb_x (by simp) (by go_simp)
          have hlq : wr.heap.size < x.heap.size := by omega
          refine hK.out _ _ ?_ (fun hHeld => ?_)
          · refine ⟨below_cell_of (w := wr) ?_ p0, below_cell_of (w := wr) ?_ p1, below_cell_of (w := wr) ?_ l0, ?_⟩ <;> (repeat (first | assumption | exact Below.refl _ _ | refine below_set ?_ (by first | omega | (simp; done) | (simp; omega)) _ | refine below_drawn ?_ | refine below_drawnN ?_ _ | refine below_new ?_ _))
          clear hK K
          try go_simp
          refine wpAnyH_take (i := 9) (v := ?_) rfl (by kernel_rfl) (by kernel_rfl) (by kernel_rfl) (fun _ _ _ h => h) (Or.inl ⟨by rfl, ?_⟩) hHeld ?_
          rotate_left
          · intro w hSw; obtain ⟨hS0, hS1, hS2, hS3⟩ := hSw; go_simp; try with_reducible rfl
          try go_simp
          refine wpAnyH_take (i := 10) (v := ?_) rfl (by kernel_rfl) (by kernel_rfl) (by kernel_rfl) (fun _ _ _ h => h) (Or.inl ⟨by rfl, ?_⟩) hHeld ?_
          rotate_left
          · intro w hSw; obtain ⟨hS0, hS1, hS2, hS3⟩ := hSw; go_simp; try with_reducible rfl
          try go_simp
          refine wpAnyH_take (i := 11) (v := ?_) rfl (by kernel_rfl) (by kernel_rfl) (by kernel_rfl) (fun _ _ _ h => h) (Or.inl ⟨by rfl, ?_⟩) hHeld ?_
          rotate_left
          · intro w hSw; obtain ⟨hS0, hS1, hS2, hS3⟩ := hSw; go_simp; try with_reducible rfl
          try go_simp
          refine wpAnyH_ready (rs := [13]) (by kernel_rfl) (by simp) ?_
          refine AllReadyH.cons rfl (fun K hK => ?_) AllReadyH.nil
          go_simp
          refine hK.out _ _ ?_ (fun hHeld => ?_)
          · refine ⟨below_cell_of (w := wr) ?_ p0, below_cell_of (w := wr) ?_ p1, below_cell_of (w := wr) ?_ l0, ?_⟩ <;> (repeat (first | assumption | exact Below.refl _ _ | refine below_set ?_ (by first | omega | (simp; done) | (simp; omega)) _ | refine below_drawn ?_ | refine below_drawnN ?_ _ | refine below_new ?_ _))
          clear hK K
          try go_simp
          refine wpAnyH_take (i := 14) (v := ?_) rfl (by kernel_rfl) (by kernel_rfl) (by kernel_rfl) (fun _ _ _ h => h) (Or.inl ⟨by rfl, ?_⟩) hHeld ?_
          rotate_left
          · intro w hSw; obtain ⟨hS0, hS1, hS2, hS3⟩ := hSw; go_simp; try with_reducible rfl
          try go_simp
          refine wpAnyH_done (by kernel_rfl) ?_ _
          go_wp2
          refine wp_region_held_drew (S := (fun W => W.cell? ⟨wr.heap.size, 0, none⟩ = some (.int .i64 (begin + (S + 1000 * s) / rate)) ∧ W.cell? ⟨wr.heap.size, 1, none⟩ = some (.int .i64 ((S + 1000 * s) % rate)) ∧ W.cell? ⟨w2.heap.size, 0, none⟩ = some (.int .i64 (begin + S / rate)) ∧ W.cell? ⟨w2.heap.size, 1, none⟩ = some (.int .i64 (S % rate)) ∧ W.frozen? ⟨w2.heap.size, 0, none⟩ = false ∧ W.frozen? ⟨w2.heap.size, 1, none⟩ = false ∧ Below wr.heap.size wr W)) (by kernel_rfl) ?_ (fun hHeld => ?_)
          · obtain ⟨g0, g1, g2, hBW⟩ := hHeld
            have hBV := below_drawn hBW
            exact ⟨by go_simp, by go_simp, g0, g1, below_frozen_of hBV hsz f0, below_frozen_of hBV hsz f1, hBV⟩
          refine wpAnyH_take (i := 0) (v := ?_) rfl (by kernel_rfl) (by kernel_rfl) (by kernel_rfl) (fun _ _ _ h => h) (Or.inl ⟨by rfl, ?_⟩) hHeld ?_
          rotate_left
          · intro w hSw; obtain ⟨hS0, hS1, hS2, hS3, hS4⟩ := hSw; go_simp; (try simp only [DV.out]); (try simp only [SM.out]); (try simp only [RM.out]); try with_reducible rfl
          try go_simp
          refine wpAnyH_take (i := 1) (v := ?_) rfl (by kernel_rfl) (by kernel_rfl) (by kernel_rfl) (fun _ _ _ h => h) (Or.inl ⟨by rfl, ?_⟩) hHeld ?_
          rotate_left
          · intro w hSw; obtain ⟨hS0, hS1, hS2, hS3, hS4⟩ := hSw; go_simp; (try simp only [DV.out]); (try simp only [SM.out]); (try simp only [RM.out]); try with_reducible rfl
          try go_simp
          refine wpAnyH_take (i := 2) (v := ?_) rfl (by kernel_rfl) (by kernel_rfl) (by kernel_rfl) (fun _ _ _ h => h) (Or.inl ⟨by rfl, ?_⟩) hHeld ?_
          rotate_left
          · intro w hSw; obtain ⟨hS0, hS1, hS2, hS3, hS4⟩ := hSw; go_simp; (try simp only [DV.out]); (try simp only [SM.out]); (try simp only [RM.out]); try with_reducible rfl
          try go_simp
          refine wpAnyH_take (i := 3) (v := ?_) rfl (by kernel_rfl) (by kernel_rfl) (by kernel_rfl) (fun _ _ _ h => h) (Or.inl ⟨by rfl, ?_⟩) hHeld ?_
          rotate_left
          · intro w hSw; obtain ⟨hS0, hS1, hS2, hS3, hS4⟩ := hSw; go_simp; (try simp only [DV.out]); (try simp only [SM.out]); (try simp only [RM.out]); try with_reducible rfl
          try go_simp
          refine wpAnyH_take (i := 4) (v := ?_) rfl (by kernel_rfl) (by kernel_rfl) (by kernel_rfl) (fun _ _ _ h => h) (Or.inl ⟨by rfl, ?_⟩) hHeld ?_
          rotate_left
          · intro w hSw; obtain ⟨hS0, hS1, hS2, hS3, hS4⟩ := hSw; go_simp; (try simp only [DV.out]); (try simp only [SM.out]); (try simp only [RM.out]); try with_reducible rfl
          try go_simp
          refine wpAnyH_take (i := 5) (v := ?_) rfl (by kernel_rfl) (by kernel_rfl) (by kernel_rfl) (fun _ _ _ h => h) (Or.inl ⟨by rfl, ?_⟩) hHeld ?_
          rotate_left
          · intro w hSw; obtain ⟨hS0, hS1, hS2, hS3, hS4⟩ := hSw; go_simp; (try simp only [DV.out]); (try simp only [SM.out]); (try simp only [RM.out]); try with_reducible rfl
          try go_simp
          refine wpAnyH_take (i := 6) (v := ?_) rfl (by kernel_rfl) (by kernel_rfl) (by kernel_rfl) (fun _ _ _ h => h) (Or.inl ⟨by rfl, ?_⟩) hHeld ?_
          rotate_left
          · intro w hSw; obtain ⟨hS0, hS1, hS2, hS3, hS4⟩ := hSw; go_simp; (try simp only [DV.out]); (try simp only [SM.out]); (try simp only [RM.out]); try with_reducible rfl
          try go_simp
          refine wpAnyH_take (i := 7) (v := ?_) rfl (by kernel_rfl) (by kernel_rfl) (by kernel_rfl) (fun _ _ _ h => h) (Or.inl ⟨by rfl, ?_⟩) hHeld ?_
          rotate_left
          · intro w hSw; obtain ⟨hS0, hS1, hS2, hS3, hS4⟩ := hSw; go_simp; (try simp only [DV.out]); (try simp only [SM.out]); (try simp only [RM.out]); try with_reducible rfl
          try go_simp
          refine wpAnyH_take (i := 8) (v := ?_) rfl (by kernel_rfl) (by kernel_rfl) (by kernel_rfl) (fun _ _ _ h => h) (Or.inl ⟨by rfl, ?_⟩) hHeld ?_
          rotate_left
          · intro w hSw; obtain ⟨hS0, hS1, hS2, hS3, hS4⟩ := hSw; go_simp; (try simp only [DV.out]); (try simp only [SM.out]); (try simp only [RM.out]); try with_reducible rfl
          try go_simp
          refine wpAnyH_take (i := 9) (v := ?_) rfl (by kernel_rfl) (by kernel_rfl) (by kernel_rfl) (fun _ _ _ h => h) (Or.inl ⟨by rfl, ?_⟩) hHeld ?_
          rotate_left
          · intro w hSw; obtain ⟨hS0, hS1, hS2, hS3, hS4⟩ := hSw; go_simp; (try simp only [DV.out]); (try simp only [SM.out]); (try simp only [RM.out]); try with_reducible rfl
          try go_simp
          refine wpAnyH_take (i := 10) (v := ?_) rfl (by kernel_rfl) (by kernel_rfl) (by kernel_rfl) (fun _ _ _ h => h) (Or.inl ⟨by rfl, ?_⟩) hHeld ?_
          rotate_left
          · intro w hSw; obtain ⟨hS0, hS1, hS2, hS3, hS4⟩ := hSw; go_simp; (try simp only [DV.out]); (try simp only [SM.out]); (try simp only [RM.out]); try with_reducible rfl
          try go_simp
          refine wpAnyH_take (i := 11) (v := ?_) rfl (by kernel_rfl) (by kernel_rfl) (by kernel_rfl) (fun _ _ _ h => h) (Or.inl ⟨by rfl, ?_⟩) hHeld ?_
          rotate_left
          · intro w hSw; obtain ⟨hS0, hS1, hS2, hS3, hS4⟩ := hSw; go_simp; (try simp only [DV.out]); (try simp only [SM.out]); (try simp only [RM.out]); try with_reducible rfl
          try go_simp
          refine wpAnyH_take (i := 12) (v := ?_) rfl (by kernel_rfl) (by kernel_rfl) (by kernel_rfl) (fun _ _ _ h => h) (Or.inl ⟨by rfl, ?_⟩) hHeld ?_
          rotate_left
          · intro w hSw; obtain ⟨hS0, hS1, hS2, hS3, hS4⟩ := hSw; go_simp; (try simp only [DV.out]); (try simp only [SM.out]); (try simp only [RM.out]); try with_reducible rfl
          try go_simp
          refine wpAnyH_take (i := 13) (v := ?_) rfl (by kernel_rfl) (by kernel_rfl) (by kernel_rfl) (fun _ _ _ h => h) (Or.inl ⟨by rfl, ?_⟩) hHeld ?_
          rotate_left
          · intro w hSw; obtain ⟨hS0, hS1, hS2, hS3, hS4⟩ := hSw; go_simp; (try simp only [DV.out]); (try simp only [SM.out]); (try simp only [RM.out]); try with_reducible rfl
          try go_simp
          refine wpAnyH_take (i := 14) (v := ?_) rfl (by kernel_rfl) (by kernel_rfl) (by kernel_rfl) (fun _ _ _ h => h) (Or.inl ⟨by rfl, ?_⟩) hHeld ?_
          rotate_left
          · intro w hSw; obtain ⟨hS0, hS1, hS2, hS3, hS4⟩ := hSw; go_simp; (try simp only [DV.out]); (try simp only [SM.out]); (try simp only [RM.out]); try with_reducible rfl
          try go_simp
          refine wpAnyH_take (i := 15) (v := ?_) rfl (by kernel_rfl) (by kernel_rfl) (by kernel_rfl) (fun _ _ _ h => h) (Or.inl ⟨by rfl, ?_⟩) hHeld ?_
          rotate_left
          · intro w hSw; obtain ⟨hS0, hS1, hS2, hS3, hS4⟩ := hSw; go_simp; (try simp only [DV.out]); (try simp only [SM.out]); (try simp only [RM.out]); try with_reducible rfl
          try go_simp
          refine wpAnyH_take (i := 16) (v := ?_) rfl (by kernel_rfl) (by kernel_rfl) (by kernel_rfl) (fun _ _ _ h => h) (Or.inl ⟨by rfl, ?_⟩) hHeld ?_
          rotate_left
          · intro w hSw; obtain ⟨hS0, hS1, hS2, hS3, hS4⟩ := hSw; go_simp; (try simp only [DV.out]); (try simp only [SM.out]); (try simp only [RM.out]); try with_reducible rfl
          try go_simp
          refine wpAnyH_take (i := 17) (v := ?_) rfl (by kernel_rfl) (by kernel_rfl) (by kernel_rfl) (fun _ _ _ h => h) (Or.inl ⟨by rfl, ?_⟩) hHeld ?_
          rotate_left
          · intro w hSw; obtain ⟨hS0, hS1, hS2, hS3, hS4⟩ := hSw; go_simp; (try simp only [DV.out]); (try simp only [SM.out]); (try simp only [RM.out]); try with_reducible rfl
          try go_simp
          refine wpAnyH_take (i := 18) (v := ?_) rfl (by kernel_rfl) (by kernel_rfl) (by kernel_rfl) (fun _ _ _ h => h) (Or.inl ⟨by rfl, ?_⟩) hHeld ?_
          rotate_left
          · intro w hSw; obtain ⟨hS0, hS1, hS2, hS3, hS4⟩ := hSw; go_simp; (try simp only [DV.out]); (try simp only [SM.out]); (try simp only [RM.out]); try with_reducible rfl
          try go_simp
          refine wpAnyH_take (i := 19) (v := ?_) rfl (by kernel_rfl) (by kernel_rfl) (by kernel_rfl) (fun _ _ _ h => h) (Or.inl ⟨by rfl, ?_⟩) hHeld ?_
          rotate_left
          · intro w hSw; obtain ⟨hS0, hS1, hS2, hS3, hS4⟩ := hSw; go_simp; (try simp only [DV.out]); (try simp only [SM.out]); (try simp only [RM.out]); try with_reducible rfl
          try go_simp
          refine wpAnyH_done (by kernel_rfl) ?_ _
          obtain ⟨g0, g1, g2, g3, g4, g5, hBW⟩ := hHeld
          simp only [World.frozen?_drew, World.cell?_drew] at g0 g1 g2 g3 g4 g5
          go_wp2
          go_roundw
          case rel =>
            refine ⟨k + 1, by omega, by go_num, by rw [HSU.out], ?_, ?_, ?_, ?_, ?_, ?_⟩
            · rw [HSU.out]; go_simp
            · rw [HSU.out]; go_simp
            · go_simp
            · go_simp
            · have := hBW.size; simp at this ⊢; omega
            · exact below_drawn (below_set (below_set (below_on HB.out (below_undrew hBW)) (Nat.le_refl _) _) (Nat.le_refl _) _)
          case measure => simp [intOf]; omega
    · obtain rfl : k = len := by omega
      go_wp2
      go_ret
      exact ⟨rfl, below_on hB_w2 HB.out⟩
theorem exactly_entry (begin rate : Int) (a : Option Addr) (len cap : Nat) (zs : List Int) (w : World) (hz : RdI w .u16 a len zs) (hwf : ∀ z, z ∈ zs → (Lit.int .u16 z).wf = true) : Calls Try.prog 4 #[.int .i64 begin, .int .i64 rate, .slice a len cap] w fun e w' => e = .returned (.bool true) ∧ Below w.heap.size w w' := by
  cases h : Pc.timeB begin
  · exact exactly_time begin rate a len cap w h
  · cases k : Pc.rateB rate
    · exact exactly_rate begin rate a len cap w h k
    · by_cases hl : 100 < len
      · exact exactly_long begin rate a len cap w h k hl
      · refine exactly_walk begin rate a len cap zs w h k (by omega) hz (fun z hz' => ?_)
        have := hwf z hz'
        simp [Lit.wf, IntKind.min, IntKind.max, IntKind.signed, IntKind.bits] at this
        omega
end Go.Proofs.Ytgfcoahlmbjjoaa
