/- The reference of package route: a trip. -/
import Derived.Test.YtjjplcjinhcpiaaRoRefB
namespace Go.Proofs.Ytjjplcjinhcpiaa
open Go.RowKit

theorem tripSt_take_all {links : List (Int × Int)} {back size : Int} {ls : List Int} {k : Nat} (hk : k < ls.length) (h : Ro.fine (links.getD (ls.getD k 0).toNat (0, 0)) = false) : ls.all (fun x => Ro.fine (links.getD x.toNat (0, 0))) = false := by
  rw [← Bool.not_eq_true, List.all_eq_true]
  intro e
  have := e (ls.getD k 0) (by rw [List.getD_eq_getElem?_getD, List.getElem?_eq_getElem hk]; exact List.getElem_mem _)
  rw [h] at this
  cases this
set_option maxRecDepth 100000 in
set_option maxHeartbeats 4000000 in
theorem rtrip_any (la : Option Addr) (ln lc : Nat) (ks : List LinkV) (a : Option Addr) (len cap : Nat) (ls : List Int) (back : Int) (up : Bool) (size : Int) (w : World) (hk : RdK w la ln ks) (hl : RdI w .i64 a len ls) (hml : (len : Int) ≤ 9223372036854775806) :
    Calls Try.prog 15 #[.slice la ln lc, .agg #[.slice a len cap, .int .i64 back, .bool up], .int .i64 size] w fun e w' => e = .returned (.tuple #[.int .i64 (Ro.trip (ks.map LinkV.plain) ls back size).1, .int .i64 (Ro.trip (ks.map LinkV.plain) ls back size).2]) ∧ Below w.heap.size w w' := by
  have HK := Lib.hid hk
  have HL := Lib.hid hl
  clear hk hl
  obtain ⟨c, hcc⟩ : ∃ c, Ro.check ln [(ls, back)] = c := ⟨_, rfl⟩
  have HC := Lib.hid hcc
  clear hcc
  go_enter Try.func15, Try.ntmps15
  by_cases s0 : size < 1
  · have HT : RowKit.Hid (Ro.trip (ks.map LinkV.plain) ls back size = (0, 1)) := Lib.hid (by unfold Ro.trip; rw [if_neg (by rw [Ro.inside_iff]; omega)])
    go_wp2
    exact bodyPost_ret (results_tmp2 rfl _ _ _) rfl ⟨by rw [HT.out]; rfl, below_new (Below.refl _ _) _⟩
  by_cases s1 : 10000 < size
  · have HT : RowKit.Hid (Ro.trip (ks.map LinkV.plain) ls back size = (0, 1)) := Lib.hid (by unfold Ro.trip; rw [if_neg (by rw [Ro.inside_iff]; omega)])
    go_wp2
    exact bodyPost_ret (results_tmp2 rfl _ _ _) rfl ⟨by rw [HT.out]; rfl, below_new (Below.refl _ _) _⟩
  have HI : RowKit.Hid (Ro.inside size 1 10000 = true) := Lib.hid (by rw [Ro.inside_iff]; omega)
  have S0 : 1 ≤ size := by omega
  have S1 : size ≤ 10000 := by omega
  go_wp2_with fail
  have hps : RdP ((w.alloc (.cells #[.slice a len cap, .int .i64 back, .bool up] 26)).alloc (.cells #[.slice a len cap, .int .i64 back, .bool up] 26)) (some ⟨w.heap.size + 1, 0, none⟩) 1 [⟨a, len, cap, ls, back, up⟩] :=
    ⟨rfl, fun i hi => by
      obtain rfl : i = 0 := by omega
      exact ⟨_, rfl, by go_simp, by go_simp, by go_simp, (HL.out.below (below_new (below_new (Below.refl _ _) _) _)), by show (len : Int) ≤ 9223372036854775807; omega⟩⟩
  refine (rcheck_any ln _ 1 1 [⟨a, len, cap, ls, back, up⟩] _ hps (by omega)).mono ?_
  rw [show ([⟨a, len, cap, ls, back, up⟩] : List PathV).map PathV.plain = [(ls, back)] from rfl, HC.out]
  rintro e w2 ⟨rfl, hb2⟩
  have HB2 := Lib.hid (below_on (below_new (below_new (Below.refl _ _) _) _) hb2)
  have p0 := below_cell_of hb2 (a := ⟨w.heap.size, 0, none⟩) (v := .slice a len cap) (by go_simp)
  have p1 := below_cell_of hb2 (a := ⟨w.heap.size, 1, none⟩) (v := .int .i64 back) (by go_simp)
  have hz2 := hb2.size
  simp only [World.size_alloc] at hz2
  have hlw : w.heap.size < w2.heap.size := by omega
  clear hb2 hps hz2
  by_cases hc0 : c = 0
  · subst hc0
    obtain ⟨hm8, hl6, hall, _, hbk⟩ := Ro.check_one HC.out
    obtain ⟨_, hm8⟩ := (Ro.inside_iff _ _ _).1 hm8
    obtain ⟨hl1', hl6⟩ := (Ro.inside_iff _ _ _).1 hl6
    obtain ⟨bk0, bk1⟩ := (Ro.inside_iff _ _ _).1 hbk
    have hzl := HL.out.1
    rw [hzl] at hl1' hl6
    have HZ := Lib.hid hzl
    have HALL := Lib.hid hall
    have HT := Lib.hid (Ro.trip_ok (links := ks.map LinkV.plain) (ls := ls) (back := back) HI.out (by rw [List.length_map, HK.out.1]; exact HC.out))
    clear hall hbk hzl
    go_wp2
    go_loopw [9, 10] (fun t i wr => ∃ k : Nat, k ≤ len ∧ i = .int .i64 k ∧ (tripSt (ks.map LinkV.plain) back size (ls.take k)).1 = true ∧ t = .int .i64 (tripSt (ks.map LinkV.plain) back size (ls.take k)).2 ∧ wr.cell? ⟨w.heap.size, 0, none⟩ = some (.slice a len cap) ∧ Below w.heap.size w wr) (fun _ i _ => len - (intOf i).toNat)
    case atStart => exact ⟨0, Nat.zero_le _, rfl, rfl, rfl, p0, HB2.out⟩
    case round =>
      obtain ⟨k, hk, rfl, hst1, rfl, r0, hB⟩ := hrel
      have HB := Lib.hid hB
      have hbd := tripSt_bd (links := ks.map LinkV.plain) bk0 bk1 S0 S1 (ls.take k)
      rw [List.length_take] at hbd
      obtain ⟨⟨f, T⟩, hst⟩ : ∃ s, tripSt (ks.map LinkV.plain) back size (ls.take k) = s := ⟨_, rfl⟩
      rw [hst] at hst1 hbd ⊢
      simp only at hst1 hbd
      subst hst1
      have HST := Lib.hid hst
      obtain ⟨T0, T1⟩ := hbd
      have T2 : T ≤ 100000000 := by have := HZ.out; omega
      clear hB hst T1
      by_cases hlt : k < len
      · have hin := HALL.out _ (HL.out.mem hlt)
        obtain ⟨ad, rfl, hc⟩ := (HL.out.below HB.out).2 k hlt
        obtain ⟨z, hzz⟩ : ∃ z, ls.getD k 0 = z := ⟨_, rfl⟩
        rw [hzz] at hin hc
        obtain ⟨q0, q1⟩ := (Ro.inside_iff _ _ _).1 hin
        obtain ⟨j, rfl⟩ : ∃ j : Nat, z = j := ⟨z.toNat, by omega⟩
        have hj : j < ln := by omega
        have HZZ := Lib.hid hzz
        obtain ⟨lb, lo, rfl, hrw, hone⟩ := HK.out.2 j hj
        have hrg := rangeAt_below hrw HB.out
        obtain ⟨K, hK⟩ : ∃ K, ks.getD j default = K := ⟨_, rfl⟩
        rw [hK] at hrg hone
        have HONE := Lib.hid hone
        have HKK := Lib.hid hK
        obtain ⟨r, d, X⟩ := K
        have HRG := Lib.hid hrg
        have hgd : (ks.map LinkV.plain).getD (ls.getD k 0).toNat (0, 0) = (r, d) := by
          have hjl : j < ks.length := by rw [HK.out.1]; exact hj
          rw [HZZ.out, Int.toNat_natCast, List.getD_eq_getElem?_getD, List.getElem?_map, List.getElem?_eq_getElem hjl]
          rw [List.getD_eq_getElem?_getD, List.getElem?_eq_getElem hjl, Option.getD_some] at hK
          rw [hK]
          rfl
        have HGD := Lib.hid hgd
        have hkl : k < ls.length := by rw [HZ.out]; exact hlt
        have hts : ls.take (k + 1) = ls.take k ++ [ls.getD k 0] := by
          rw [List.take_add_one, List.getD_eq_getElem?_getD, List.getElem?_eq_getElem hkl]
          rfl
        have hsn := tripSt_snoc (ks.map LinkV.plain) back size (ls.take k) (ls.getD k 0)
        rw [← hts, HST.out, hgd] at hsn
        have HSN := Lib.hid hsn
        have HF : RowKit.Hid (Ro.fine (r, d) = false → Ro.trip (ks.map LinkV.plain) ls back size = (0, 3)) := Lib.hid (fun h => HT.out.trans (if_neg (by rw [tripSt_take_all (size := size) (back := back) hkl (by rw [HGD.out]; exact h)]; decide)))
        clear hin q0 q1 hzz hrw hone hK hrg hgd hkl hts hsn
        by_cases hg : 1 ≤ r ∧ r ≤ 1000000 ∧ 0 ≤ d ∧ d ≤ 1000000
        · obtain ⟨g0, g1, g2, g3⟩ := hg
          have n1 : ¬ r < 1 := by omega
          have n2 : ¬ 1000000 < r := by omega
          have n3 : ¬ d < 0 := by omega
          have n4 : ¬ 1000000 < d := by omega
          have hfi : Ro.fine (r, d) = true := by
            show (Ro.inside r 1 1000000 && Ro.inside d 0 1000000) = true
            rw [(Ro.inside_iff _ _ _).2 ⟨g0, g1⟩, (Ro.inside_iff _ _ _).2 ⟨g2, g3⟩]
            rfl
          have hsn := HSN.out
          rw [hfi] at hsn
          have HSN2 : RowKit.Hid (tripSt (ks.map LinkV.plain) back size (ls.take (k + 1)) = (true, T + ((1000 * size + r - 1).tdiv r + d))) := Lib.hid hsn
          have hq : 0 ≤ (1000 * size + r - 1).tdiv r ∧ (1000 * size + r - 1).tdiv r ≤ 1000 * size + r - 1 := by
            rw [Int.tdiv_eq_ediv_of_nonneg (by omega)]
            exact ⟨Int.ediv_nonneg (by omega) (by omega), Int.ediv_le_self _ (by omega)⟩
          obtain ⟨w0, w1⟩ := hq
          have e0 : IntKind.i64.wrap (T + (1000 * size + r - 1).tdiv r) = T + (1000 * size + r - 1).tdiv r := IntWalk.i64_in _ ⟨by omega, by omega⟩
          have e1 : IntKind.i64.wrap (T + (1000 * size + r - 1).tdiv r + d) = T + (1000 * size + r - 1).tdiv r + d := IntWalk.i64_in _ ⟨by omega, by omega⟩
          have E0 := Lib.hid e0
          have E1 := Lib.hid e1
          clear hfi hsn w0 w1 e0 e1 HF HSN
          go_wp2_with (first | (refine wpList_load_mid rfl 53 _ rfl lb (lo + j * 27) (by first | rfl | exact congrArg (fun x => Value.pointer (some x)) (Addr.add_mid _ _ _)) (linkList r d X) _ HRG.out Try.underlying53 rfl (by kernel_rfl) ?_) | (refine wpList_store_new rfl 53 _ _ rfl _ (linkList r d X).toArray rfl rfl (by kernel_rfl) rfl HONE.out ?_))
          refine wp_region_held_drew (S := (fun W => W.cell? ⟨wr.heap.size, 0, none⟩ = some (.int .i64 r) ∧ W.cell? ⟨wr.heap.size, 1, none⟩ = some (.int .i64 d))) (by kernel_rfl) ?_ (fun hHeld => ?_)
          · exact ⟨by go_simp, by go_simp⟩
          refine wpAnyH_take (i := 0) (v := ?_) rfl (by kernel_rfl) (by kernel_rfl) (by kernel_rfl) (fun _ _ _ h => h) (Or.inl ⟨by rfl, ?_⟩) hHeld ?_
          rotate_left
          · intro wS hSw; obtain ⟨hS0, hS1⟩ := hSw; go_simp; (try simp only [E0.out]); (try simp only [E1.out]); try with_reducible rfl
          try go_simp
          refine wpAnyH_take (i := 1) (v := ?_) rfl (by kernel_rfl) (by kernel_rfl) (by kernel_rfl) (fun _ _ _ h => h) (Or.inl ⟨by rfl, ?_⟩) hHeld ?_
          rotate_left
          · intro wS hSw; obtain ⟨hS0, hS1⟩ := hSw; go_simp; (try simp only [E0.out]); (try simp only [E1.out]); try with_reducible rfl
          try go_simp
          refine wpAnyH_take (i := 2) (v := ?_) rfl (by kernel_rfl) (by kernel_rfl) (by kernel_rfl) (fun _ _ _ h => h) (Or.inl ⟨by rfl, ?_⟩) hHeld ?_
          rotate_left
          · intro wS hSw; obtain ⟨hS0, hS1⟩ := hSw; go_simp; (try simp only [E0.out]); (try simp only [E1.out]); try with_reducible rfl
          try go_simp
          refine wpAnyH_take (i := 3) (v := ?_) rfl (by kernel_rfl) (by kernel_rfl) (by kernel_rfl) (fun _ _ _ h => h) (Or.inl ⟨by rfl, ?_⟩) hHeld ?_
          rotate_left
          · intro wS hSw; obtain ⟨hS0, hS1⟩ := hSw; go_simp; (try simp only [E0.out]); (try simp only [E1.out]); try with_reducible rfl
          try go_simp
          refine wpAnyH_take (i := 6) (v := ?_) rfl (by kernel_rfl) (by kernel_rfl) (by kernel_rfl) (fun _ _ _ h => h) (Or.inl ⟨by rfl, ?_⟩) hHeld ?_
          rotate_left
          · intro wS hSw; obtain ⟨hS0, hS1⟩ := hSw; go_simp; (try simp only [E0.out]); (try simp only [E1.out]); try with_reducible rfl
          try go_simp
          refine wpAnyH_take (i := 7) (v := ?_) rfl (by kernel_rfl) (by kernel_rfl) (by kernel_rfl) (fun _ _ _ h => h) (Or.inl ⟨by rfl, ?_⟩) hHeld ?_
          rotate_left
          · intro wS hSw; obtain ⟨hS0, hS1⟩ := hSw; go_simp; (try simp only [E0.out]); (try simp only [E1.out]); try with_reducible rfl
          try go_simp
          refine wpAnyH_ready (rs := [4]) (by kernel_rfl) (by simp) ?_
          refine AllReadyH.cons rfl (fun K hK => ?_) AllReadyH.nil
          go_simp
          refine (rtransmission_any r size _ (by omega) (by omega) S0 S1).mono ?_
          rintro e w' ⟨rfl, rfl⟩
          refine hK.out _ _ ?_ (fun hHeld => ?_)
          · exact ⟨by go_simp, by go_simp⟩
          clear hK K
          try go_simp
          refine wpAnyH_take (i := 5) (v := ?_) rfl (by kernel_rfl) (by kernel_rfl) (by kernel_rfl) (fun _ _ _ h => h) (Or.inl ⟨by rfl, ?_⟩) hHeld ?_
          rotate_left
          · intro wS hSw; obtain ⟨hS0, hS1⟩ := hSw; go_simp; (try simp only [E0.out]); (try simp only [E1.out]); try with_reducible rfl
          try go_simp
          refine wpAnyH_take (i := 8) (v := ?_) rfl (by kernel_rfl) (by kernel_rfl) (by kernel_rfl) (fun _ _ _ h => h) (Or.inl ⟨by rfl, ?_⟩) hHeld ?_
          rotate_left
          · intro wS hSw; obtain ⟨hS0, hS1⟩ := hSw; go_simp; (try simp only [E0.out]); (try simp only [E1.out]); try with_reducible rfl
          try go_simp
          refine wpAnyH_take (i := 9) (v := ?_) rfl (by kernel_rfl) (by kernel_rfl) (by kernel_rfl) (fun _ _ _ h => h) (Or.inl ⟨by rfl, ?_⟩) hHeld ?_
          rotate_left
          · intro wS hSw; obtain ⟨hS0, hS1⟩ := hSw; go_simp; (try simp only [E0.out]); (try simp only [E1.out]); try with_reducible rfl
          try go_simp
          refine wpAnyH_done (by kernel_rfl) ?_ _
          clear hHeld
          go_wp2
          go_roundw
          case rel => exact ⟨k + 1, by omega, by go_num, by rw [HSN2.out], by rw [HSN2.out]; show Value.int .i64 _ = Value.int .i64 _; rw [Int.add_assoc], below_cell_of (below_drawn (below_new (Below.refl _ _) _)) r0, below_drawn (below_new HB.out _)⟩
          case measure => simp [intOf]; omega
        · have hfi : Ro.fine (r, d) = false := by
            rw [← Bool.not_eq_true]
            intro h
            have h2 : (Ro.inside r 1 1000000 && Ro.inside d 0 1000000) = true := h
            rw [Bool.and_eq_true, Ro.inside_iff, Ro.inside_iff] at h2
            omega
          have HF2 := Lib.hid (HF.out hfi)
          have hb : r < 1 ∨ (¬ r < 1 ∧ 1000000 < r) ∨ (¬ r < 1 ∧ ¬ 1000000 < r ∧ d < 0) ∨ (¬ r < 1 ∧ ¬ 1000000 < r ∧ ¬ d < 0 ∧ 1000000 < d) := by omega
          clear hfi hg HF HSN
          rcases hb with b1 | ⟨b1, b2⟩ | ⟨b1, b2, b3⟩ | ⟨b1, b2, b3, b4⟩
          · go_wp2_with (first | (refine wpList_load_mid rfl 53 _ rfl lb (lo + j * 27) (by first | rfl | exact congrArg (fun x => Value.pointer (some x)) (Addr.add_mid _ _ _)) (linkList r d X) _ HRG.out Try.underlying53 rfl (by kernel_rfl) ?_) | (refine wpList_store_new rfl 53 _ _ rfl _ (linkList r d X).toArray rfl rfl (by kernel_rfl) rfl HONE.out ?_))
            exact bodyPost_ret (results_tmp2 rfl _ _ _) rfl ⟨by rw [HF2.out]; rfl, below_new HB.out _⟩
          · go_wp2_with (first | (refine wpList_load_mid rfl 53 _ rfl lb (lo + j * 27) (by first | rfl | exact congrArg (fun x => Value.pointer (some x)) (Addr.add_mid _ _ _)) (linkList r d X) _ HRG.out Try.underlying53 rfl (by kernel_rfl) ?_) | (refine wpList_store_new rfl 53 _ _ rfl _ (linkList r d X).toArray rfl rfl (by kernel_rfl) rfl HONE.out ?_))
            exact bodyPost_ret (results_tmp2 rfl _ _ _) rfl ⟨by rw [HF2.out]; rfl, below_new HB.out _⟩
          · go_wp2_with (first | (refine wpList_load_mid rfl 53 _ rfl lb (lo + j * 27) (by first | rfl | exact congrArg (fun x => Value.pointer (some x)) (Addr.add_mid _ _ _)) (linkList r d X) _ HRG.out Try.underlying53 rfl (by kernel_rfl) ?_) | (refine wpList_store_new rfl 53 _ _ rfl _ (linkList r d X).toArray rfl rfl (by kernel_rfl) rfl HONE.out ?_))
            exact bodyPost_ret (results_tmp2 rfl _ _ _) rfl ⟨by rw [HF2.out]; rfl, below_new HB.out _⟩
          · go_wp2_with (first | (refine wpList_load_mid rfl 53 _ rfl lb (lo + j * 27) (by first | rfl | exact congrArg (fun x => Value.pointer (some x)) (Addr.add_mid _ _ _)) (linkList r d X) _ HRG.out Try.underlying53 rfl (by kernel_rfl) ?_) | (refine wpList_store_new rfl 53 _ _ rfl _ (linkList r d X).toArray rfl rfl (by kernel_rfl) rfl HONE.out ?_))
            exact bodyPost_ret (results_tmp2 rfl _ _ _) rfl ⟨by rw [HF2.out]; rfl, below_new HB.out _⟩
      · obtain rfl : k = len := by omega
        have hst := HST.out
        rw [List.take_of_length_le (by rw [HZ.out]; omega)] at hst
        obtain ⟨e1, e2⟩ := tripSt_eq (ks.map LinkV.plain) back size ls
        rw [hst] at e1 e2
        have ht := HT.out.trans (if_pos e1.symm)
        rw [← e2 rfl] at ht
        have HT2 := Lib.hid ht
        clear hst e1 e2 ht
        go_wp2
        exact bodyPost_ret (results_tmp2 rfl _ _ _) rfl ⟨by rw [HT2.out]; rfl, HB.out⟩
  · have HT : RowKit.Hid (Ro.trip (ks.map LinkV.plain) ls back size = (0, c)) := Lib.hid (by
      unfold Ro.trip
      rw [if_pos HI.out, List.length_map, HK.out.1, HC.out, if_neg hc0])
    go_wp2
    exact bodyPost_ret (results_tmp2 rfl _ _ _) rfl ⟨by rw [HT.out]; rfl, HB2.out⟩
end Go.Proofs.Ytjjplcjinhcpiaa
