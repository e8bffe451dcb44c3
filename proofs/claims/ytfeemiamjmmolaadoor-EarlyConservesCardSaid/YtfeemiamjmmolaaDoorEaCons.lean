/- The statement EarlyConserves: it returns true, whatever the input, and leaves what was in memory alone. -/
import Derived.Test.YtfeemiamjmmolaaDoorEaStay
import Derived.Test.YtfeemiamjmmolaaDoorEaStep
import Derived.Test.YtfeemiamjmmolaaDoorEaHead
import Derived.Test.YtfeemiamjmmolaaDoorEaValid
import Derived.Lib.MinMax
import Derived.Deep.Cut
import Derived.Deep.CutRange
namespace Go.Proofs.YtfeemiamjmmolaaDoor
open Go.RowKit

theorem item_range {w : World} {b o : Nat} {y : Ea.Item} (h : w.rangeAt b o (itemList y)) : w.rangeAt b o (pktList y.p) := fun j v hv => h j v (pkt_of_item hv)
set_option maxRecDepth 100000 in
set_option maxHeartbeats 8000000 in
theorem econs_entry (kind A B C room : Int) (la : Option Addr) (ln lc : Nat) (v0 v1 v2 v3 v4 v5 v6 v7 : Int) (s : Nat) (aa : Option Addr) (n cn : Nat) (ks : List StepE) (W : World) (hL : RdLs W la ln) (hln : (ln : Int) ≤ 9223372036854775807) (hE : RdE W aa n ks) (_ : (n : Int) ≤ 9223372036854775807) (ht : Table W) :
    Calls Tryd.prog 3 #[.agg #[.int .i64 kind, .int .i64 A, .int .i64 B, .int .i64 C, .int .i64 room, .slice la ln lc, .int .i64 v0, .int .i64 v1, .int .i64 v2, .int .i64 v3, .int .i64 v4, .int .i64 v5, .int .i64 v6, .int .i64 v7, .int .u64 (s : Int)], .slice aa n cn] W fun e V => e = .returned (.bool true) ∧ Below W.heap.size W V := by
  have HL := Lib.hid hL
  have HE := Lib.hid hE
  have HT := Lib.hid ht
  clear hL ht hE
  go_enter Tryd.func3, Tryd.ntmps3
  go_wp2_with fail
  refine (head_ok _ (table_below HT.out (by exact below_new (Below.refl _ _) _))).mono ?_
  rintro e w1 ⟨rfl, hb1⟩
  have HB1 := Lib.hid (below_on (below_new (Below.refl W.heap.size W) _) hb1)
  have HQ1 : RowKit.Hid (Blk w1 W.heap.size [.int .i64 kind, .int .i64 A, .int .i64 B, .int .i64 C, .int .i64 room, .slice la ln lc, .int .i64 v0, .int .i64 v1, .int .i64 v2, .int .i64 v3, .int .i64 v4, .int .i64 v5, .int .i64 v6, .int .i64 v7, .int .u64 (s : Int)]) := Lib.hid ((Blk.new W #[.int .i64 kind, .int .i64 A, .int .i64 B, .int .i64 C, .int .i64 room, .slice la ln lc, .int .i64 v0, .int .i64 v1, .int .i64 v2, .int .i64 v3, .int .i64 v4, .int .i64 v5, .int .i64 v6, .int .i64 v7, .int .u64 (s : Int)] 28).below hb1)
  clear hb1
  go_wp2_with (refine wpList_load_mid rfl 28 _ rfl W.heap.size 0 rfl [.int .i64 kind, .int .i64 A, .int .i64 B, .int .i64 C, .int .i64 room, .slice la ln lc, .int .i64 v0, .int .i64 v1, .int .i64 v2, .int .i64 v3, .int .i64 v4, .int .i64 v5, .int .i64 v6, .int .i64 v7, .int .u64 (s : Int)] _ HQ1.out.range Tryd.underlying28 rfl (by kernel_rfl) ?_)
  refine (usable_any kind A B C room la ln lc v0 v1 v2 v3 v4 v5 v6 v7 s w1 (HL.out.below HB1.out) hln).mono ?_
  rintro e w2 ⟨⟨b, rfl, hus⟩, hb2⟩
  have HUS := Lib.hid hus
  have HBE := Lib.hid (below_on HB1.out hb2)
  have HQ2 := Lib.hid (HQ1.out.below hb2)
  have HB12 := Lib.hid hb2
  clear hus hb2 HQ1
  cases b with
  | false =>
    go_wp2
    go_ret
    exact ⟨rfl, HBE.out⟩
  | true =>
    by_cases hn : 200 < n
    · have dn : decide (200 < (n : Int)) = true := decide_eq_true (by omega)
      go_wp2
      go_ret
      exact ⟨rfl, HBE.out⟩
    · have dn : decide (200 < (n : Int)) = false := decide_eq_false (by omega)
      obtain ⟨rfl, rfl, rfl, rfl, rfl, rfl, rfl, rfl, ad, a, n0, c0, xs, rfl, hc, hr, hn0, hq⟩ := HUS.out rfl
      have hst : ESt W w2 A B C room v7 (.slice none 0 0) (.slice none 0 0) xs (Ea.pks (xs.take 0)) [] := ⟨HBE.out, ⟨ad, lc, v0, v7, s, HQ2.out, Or.inl ((holdsC_of HL.out HB1.out hc hr hr.1).kept (grown_below HB12.out none) (fun b e => by cases e)), hq, Int.le_refl _⟩, OwnP.nil _ _, OwnP.nil _ _, fun b e => by simp [Value.ownBlock] at e, Or.inl rfl, Or.inl rfl⟩
      have HST0 := Lib.hid hst
      have hxs5 : xs.length ≤ 500 := by have := hq.len; have := hq.r1; omega
      have ht07 := hq.t0
      clear hst hc hr hn0 hq HUS HQ2 HB12 HB1 HL
      go_wp2
      go_loopw [7, 9] (fun u i wx => ∃ v : Value, v = u ∧ ∃ j : Nat, j ≤ xs.length ∧ i = .int .i64 j ∧ ESt W wx A B C room v7 v (.slice none 0 0) xs (Ea.pks (xs.take j)) []) (fun _ i _ => xs.length - (intOf i).toNat)
      case atStart => exact ⟨_, rfl, 0, Nat.zero_le _, rfl, HST0.out⟩
      case round =>
        obtain ⟨v, rfl, j, hj, rfl, hst⟩ := hrel
        have HST := Lib.hid hst
        clear hst
        obtain ⟨ad, lc, v0, v7', s, hq, ⟨a, c, hc, hr⟩, hok, -⟩ := HST.out.open
        have q5 := hq.cell 5 rfl
        have hsh : xs.length ≤ 500 := by have := hok.len; have := hok.r1; omega
        have zq := hq.lt
        have zc := World.block_lt_of_cell? _ _ hc
        by_cases hlj : j < xs.length
        · as_aux_lemma =>
          obtain ⟨b, o, rfl, hx⟩ := hr.2 j hlj
          have hps := Ea.pks_snoc (l := xs) hlj
          have hlen : (Ea.pks (xs.take j)).length ≤ 500 := by rw [Ea.pks_len, List.length_take]; omega
          obtain ⟨x, hxx⟩ : ∃ x, xs.getD j default = x := ⟨_, rfl⟩
          rw [hxx] at hx hps
          have HPS := Lib.hid hps
          have HR := Lib.hid (item_range hx)
          clear hxx hps hx
          have zw := HST.out.below.size
          obtain ⟨m, hm⟩ : ∃ m, xs.length = m := ⟨_, rfl⟩
          rw [hm] at hc
          have dj : decide ((j : Int) < (m : Int)) = true := decide_eq_true (by omega)
          go_wp2_with (first | (refine wpList_load_mid rfl 35 (.tmp 52) rfl b (o + j * 9) (by first | rfl | exact congrArg (fun x => Value.pointer (some x)) (Addr.add_mid _ _ _)) (pktList x.p) _ HR.out Tryd.underlying35 rfl (by kernel_rfl) ?_) | (refine wpList_build_pkt rfl (.tmp 53) rfl x.p rfl ?_) | (refine wpList_add_pkt_at rfl (.tmp 45) (.tmp 54) rfl rfl (own_below8 HST.out.c (below_new (Below.refl _ _) _)) (by simp; omega) _ 0 x.p rfl (by exact (Blk.new _ (pktList x.p).toArray 35).range) (by omega) ?_; intro v' V5 hown5 hgr5 hat5))
          go_roundw
          case rel => exact ⟨_, rfl, j + 1, by omega, by go_num, by rw [HPS.out]; exact (HST.out.below' (below_new (Below.refl _ _) _)).came hgr5 hown5 hat5⟩
          case measure => simp [intOf]; omega
        · obtain rfl : j = xs.length := by omega
          rw [List.take_length] at HST
          clear HST0
          obtain ⟨w3, rfl⟩ : ∃ w3, w3 = wr := ⟨_, rfl⟩
          obtain ⟨v7q, hst, hc7, h70, h71⟩ := HST.out.clock
          obtain ⟨m, hm⟩ : ∃ m, xs.length = m := ⟨_, rfl⟩
          rw [hm] at hc ⊢
          have dj : decide ((m : Int) < (m : Int)) = false := decide_eq_false (by omega)
          have HS1 := Lib.hid hst
          have HK1 := Lib.hid (Ea.Kin.refl (Ea.pks xs))
          have hl1 : (Ea.pks xs).length ≤ 500 := by rw [Ea.pks_len]; exact hxs5
          clear hst HST hr hok hm
          go_wp2
          go_loopw [7, 8, 10, 11] (fun u1 u2 nw i wx => ∃ vc vw : Value, vc = u1 ∧ vw = u2 ∧ ∃ k : Nat, k ≤ n ∧ i = .int .i64 k ∧ ∃ now : Int, nw = .int .i64 now ∧ 0 ≤ now ∧ now ≤ 10000000 ∧ ∃ xs came went, ESt W wx A B C room now vc vw xs came went ∧ Ea.Kin came (went ++ Ea.pks xs) ∧ came.length ≤ 500 + k) (fun _ _ _ i _ => n - (intOf i).toNat)
          case atStart => exact ⟨_, _, rfl, rfl, 0, Nat.zero_le _, rfl, v7q, rfl, h70, h71, xs, Ea.pks xs, [], HS1.out, HK1.out, by omega⟩
          case round =>
            clear HS1 HK1 hc7 hc zq zc q5
            obtain ⟨vc, vw, rfl, rfl, k, hk, rfl, now, rfl, n0, n1, xs, came, went, hst, hkin, hlc⟩ := hrel
            have HST := Lib.hid hst
            have HKIN := Lib.hid hkin
            clear hst hkin
            by_cases hlt : k < n
            · obtain ⟨⟨sb, so, rfl, hy⟩, hw0, hw1⟩ := HE.out.2 k hlt
              have hx := rangeAt_below hy HST.out.below
              obtain ⟨⟨wt, tk, p⟩, hsv⟩ : ∃ p, ks.getD k default = p := ⟨_, rfl⟩
              rw [hsv] at hx hw0 hw1
              simp only at hw0 hw1
              have x0 : wr.cell? ⟨sb, so + k * 10, none⟩ = some (.int .u16 wt) := hx 0 _ rfl
              have x1 := hx 1 _ rfl
              have hpr : wr.rangeAt sb (so + k * 10 + 2) (pktList p) := fun i v hv => by
                have hi : i < 8 := (List.getElem?_eq_some_iff.1 hv).1
                have h := hx (2 + i) v (by
                  rw [← hv]
                  match i, hi with
                  | 0, _ => rfl
                  | 1, _ => rfl
                  | 2, _ => rfl
                  | 3, _ => rfl
                  | 4, _ => rfl
                  | 5, _ => rfl
                  | 6, _ => rfl
                  | 7, _ => rfl)
                rw [show so + k * 10 + 2 + i = so + k * 10 + (2 + i) by omega]
                exact h
              have HPR := Lib.hid hpr
              have ww : IntKind.i64.wrap wt = wt := by rw [IntKind.wrap_i64]; omega
              have wn : IntKind.i64.wrap (now + wt) = now + wt := by rw [IntKind.wrap_i64]; omega
              clear hx hy hsv hpr
              go_wp2_with (first | (refine wpList_load_mid rfl 35 (.tmp 77) rfl sb (so + k * 10 + 2) (by first | rfl | exact congrArg (fun x => Value.pointer (some x)) (Addr.add_mid _ _ _)) (pktList p) _ HPR.out Tryd.underlying35 rfl (by kernel_rfl) ?_))
              refine (packet_any p wr).mono ?_
              rintro e w4 ⟨rfl, hb4⟩
              have hst4 := HST.out.below' hb4
              have HPR4 := Lib.hid (rangeAt_below HPR.out hb4)
              have x1 := below_cell_of hb4 x1
              obtain ⟨gd, hgd⟩ : ∃ b, decide p.ok = b := ⟨_, rfl⟩
              rw [hgd]
              clear x0 HST HPR hb4
              have HST := Lib.hid hst4
              have HPR := Lib.hid HPR4.out
              clear hst4 HPR4
              obtain ⟨wr, rfl⟩ : ∃ x, x = w4 := ⟨_, rfl⟩
              obtain ⟨now', hnow⟩ : ∃ z, min 10000000 (now + wt) = z := ⟨_, rfl⟩
              have hn1 : now ≤ now' := by omega
              have hn2 : now' ≤ 10000000 := by omega
              go_upto_if 84 with fail
              try simp only [hnow]
              clear hnow x1 wn ww
              go_cut [7, 8] from 59 to 189 (fun u1 u2 wx => ∃ vc vw : Value, vc = u1 ∧ vw = u2 ∧ ∃ xs came went, ESt W wx A B C room now' vc vw xs came went ∧ Ea.Kin came (went ++ Ea.pks xs) ∧ came.length ≤ 500 + (k + 1))
              case first =>
                obtain ⟨ad, lc, v0, v7, s, hq, ⟨a, c, hc, hr⟩, hok, h4⟩ := HST.out.open
                have q5 := hq.cell 5 rfl
                have hsh : xs.length ≤ 500 := by have := hok.len; have := hok.r1; omega
                have zq := hq.lt
                have zc := World.block_lt_of_cell? _ _ hc
                have HQ := Lib.hid hq
                have HOK := Lib.hid hok
                clear hq hok
                cases tk with
                | true =>
                  rcases xs with _ | ⟨x, xt⟩
                  · as_aux_lemma =>
                    have d0 : decide (0 < (0 : Int)) = false := rfl
                    go_wp2_with (first | (refine wpList_load_mid rfl 28 (.tmp 2) rfl W.heap.size 0 rfl (qList A B C room (some ad) 1 lc v0 v7 (s : Int)) _ HQ.out.range Tryd.underlying28 rfl (by kernel_rfl) ?_))
                    refine (take_t A B C room ad lc v0 v7 s [] wr ⟨a, c, hc, hr⟩ HOK.out now' (by omega) (by omega) default false [] rfl rfl rfl).mono ?_
                    rintro e V ⟨g, rfl, hb, hT⟩
                    have HB := Lib.hid hb
                    have HTT := Lib.hid hT
                    have hc2 := below_cell_of hb hc
                    have hq2 := HQ.out.below hb
                    have q52 := hq2.cell 5 rfl
                    have HQ2 := Lib.hid hq2
                    have zv := hb.size
                    have zq2 := hq2.lt
                    have zc2 := World.block_lt_of_cell? _ _ hc2
                    simp only [List.length_nil] at hc2
                    clear hb hT hc hr hq2
                    go_wp2_with (first | (refine wpList_load_mid rfl 28 (.tmp 13) rfl V.heap.size 0 rfl (qList A B C room (some ⟨g, 0, none⟩) 1 1 v0 now' (s : Int)) _ ((Blk.new V (qList A B C room (some ⟨g, 0, none⟩) 1 1 v0 now' (s : Int)).toArray 28).below (by exact (by repeat (first | exact Below.refl _ _ | refine below_drawnN ?_ _ | refine below_drawn ?_ | refine below_new ?_ _)))).range Tryd.underlying28 rfl (by kernel_rfl) ?_) | (refine wpList_store_blk rfl 28 (.tmp 2) (.tmp 116) rfl W.heap.size (qList A B C room (some ad) 1 lc v0 v7 (s : Int)) (qList A B C room (some ⟨g, 0, none⟩) 1 1 v0 now' (s : Int)) rfl rfl (HQ2.out.below (by exact (by repeat (first | exact Below.refl _ _ | refine below_drawnN ?_ _ | refine below_drawn ?_ | refine below_new ?_ _)))) (by kernel_rfl) rfl (qList_one _ _ _ _ _ _ _ _ _ _) ?_; intro V6 hq6 hg6))
                    go_meet
                    case rel =>
                      exact ⟨_, _, rfl, rfl, [], came, went, (HST.out.below' (below_on HB.out (below_new (below_new (Below.refl _ _) _) _))).store (HTT.out.below (below_new (below_new (Below.refl _ _) _) _)) (by simpa using HOK.out.take (by omega) (by omega)) hg6 hq6, HKIN.out, by omega⟩
                  · as_aux_lemma =>
                    obtain ⟨m, hm⟩ : ∃ m, (x :: xt).length = m := ⟨_, rfl⟩
                    have hm1 : 0 < m := by rw [← hm]; simp
                    have d0 : decide (0 < (m : Int)) = true := decide_eq_true (by omega)
                    have hc0 := hc
                    rw [hm] at hc0
                    go_wp2_with (first | (refine wpList_load_mid rfl 28 (.tmp 2) rfl W.heap.size 0 rfl (qList A B C room (some ad) 1 lc v0 v7 (s : Int)) _ HQ.out.range Tryd.underlying28 rfl (by kernel_rfl) ?_))
                    refine (take_t A B C room ad lc v0 v7 s (x :: xt) wr ⟨a, c, hc, hr⟩ HOK.out now' (by omega) (by omega) x.p true xt rfl (by simp) rfl).mono ?_
                    rintro e V ⟨g, rfl, hb, hT⟩
                    have HB := Lib.hid hb
                    have HTT := Lib.hid hT
                    have hc2 := below_cell_of hb hc0
                    have hq2 := HQ.out.below hb
                    have q52 := hq2.cell 5 rfl
                    have HQ2 := Lib.hid hq2
                    have zv := hb.size
                    have zq2 := hq2.lt
                    have zc2 := World.block_lt_of_cell? _ _ hc2
                    have hle := HKIN.out.len
                    rw [List.length_append] at hle
                    have HOT := Lib.hid (own_below8 HST.out.t HB.out)
                    have zw := HST.out.below.size
                    have zo : ∀ b, vw.ownBlock = some b → b < wr.heap.size ∧ W.heap.size + 1 ≤ b := fun b e => ⟨(HST.out.t.lt b e).2, (HST.out.t.lt b e).1⟩
                    clear hb hT hc hc0 hr hq2
                    go_wp2_with (first | (refine wpList_load_mid rfl 35 (.tmp 14) rfl (V.heap.size + 1) 0 rfl (pktList x.p) _ (by exact (blk_new_at _ (pktList x.p).toArray 35 (by simp)).range) Tryd.underlying35 rfl (by kernel_rfl) ?_) | (refine wpList_build_pkt rfl (.tmp 113) rfl x.p rfl ?_) | (refine wpList_add_pkt_at rfl (.tmp 112) (.tmp 114) rfl rfl (own_below8 HOT.out (below_new (below_new (below_new (Below.refl _ _) _) _) _)) (by simp; omega) _ 0 x.p rfl (by exact (Blk.new _ (pktList x.p).toArray 35).range) (by omega) ?_; intro vw' V5 hown5 hgr5 hat5; have HO5 := Lib.hid hown5; have HG5 := Lib.hid hgr5; have HA5 := Lib.hid hat5; have HQ5 : RowKit.Hid (Blk V5 V.heap.size (qList A B C room (some ⟨g, 0, none⟩) 1 1 v0 now' (s : Int))) := Lib.hid (((Blk.new V (qList A B C room (some ⟨g, 0, none⟩) 1 1 v0 now' (s : Int)).toArray 28).below (below_new (below_new (Below.refl _ _) _) _)).kept hgr5 (fun e => by have := zo _ e.symm; omega)); have HK5 : RowKit.Hid (Blk V5 W.heap.size (qList A B C room (some ad) 1 lc v0 v7 (s : Int))) := Lib.hid ((HQ2.out.below (below_new (below_new (below_new (Below.refl _ _) _) _) _)).kept hgr5 (fun e => by have := zo _ e.symm; omega)); clear hown5 hgr5 hat5) | (refine wpList_load_mid rfl 28 (.tmp 13) rfl V.heap.size 0 rfl (qList A B C room (some ⟨g, 0, none⟩) 1 1 v0 now' (s : Int)) _ HQ5.out.range Tryd.underlying28 rfl (by kernel_rfl) ?_) | (refine wpList_store_blk rfl 28 (.tmp 2) (.tmp 116) rfl W.heap.size (qList A B C room (some ad) 1 lc v0 v7 (s : Int)) (qList A B C room (some ⟨g, 0, none⟩) 1 1 v0 now' (s : Int)) rfl rfl HK5.out (by kernel_rfl) rfl (qList_one _ _ _ _ _ _ _ _ _ _) ?_; intro V6 hq6 hg6))
                    go_meet
                    case rel =>
                      have h1 := fun o1 o2 o3 => HST.out.below' (below_on HB.out (below_new (below_new (below_new (Below.refl V.heap.size V) o1) o2) o3))
                      have h2 := (h1 _ _ _).went HG5.out HO5.out HA5.out
                      have h3 := holdsT_grow (HTT.out.below (below_new (below_new (below_new (Below.refl _ _) _) _) _)) (h1 _ _ _).t HST.out.tn HG5.out
                      exact ⟨_, _, rfl, rfl, xt, came, went ++ [x.p], h2.store h3 (by simpa using HOK.out.take (by omega) (by omega)) hg6 hq6, HKIN.out.take, by omega⟩
                | false =>
                  cases gd with
                  | false =>
                    clear hc hr q5
                    go_wp2
                    go_meet
                    case rel => exact ⟨_, _, rfl, rfl, xs, came, went, HST.out.later hn1, HKIN.out, by omega⟩
                  | true =>
                    have HPO := Lib.hid (of_decide_eq_true hgd)
                    obtain ⟨what, s1, hv⟩ : ∃ what s1, Ea.verdict A B xs.length room (Ea.avg v0 xs.length (2 ^ C.toNat)) s = (what, s1) := ⟨_, _, rfl⟩
                    have h3 := verdict_three A B xs.length room (Ea.avg v0 xs.length (2 ^ C.toNat)) s
                    rw [hv] at h3
                    simp only at h3
                    have HV := Lib.hid hv
                    obtain ⟨m, hm⟩ : ∃ m, xs.length = m := ⟨_, rfl⟩
                    have hle := HKIN.out.len
                    clear hv hgd
                    rcases HKIN.out.put (p := p) (now := now') (what := what) (by omega) with ⟨h2, hst2, hno⟩ | ⟨hlt2, hge2, hab, hkin', -⟩
                    · have HRES := Lib.hid h2
                      have HSTAY := Lib.hid hst2
                      cases hpa : p.able with
                      | false =>
                        as_aux_lemma =>
                          have HAB := Lib.hid hpa
                          clear hpa h2 hst2 hno h3
                          go_wp2
                          refine wp_region_still_tail 7 (by kernel_rfl) (by kernel_rfl) ?_
                          simp only [List.take_succ_cons, List.take_zero, List.drop_succ_cons, List.drop_zero]
                          change wpStill _ _ (World.drew _) _ _ _
                          repeat (first | (refine wpStill_load_mid (by rfl) 28 _ rfl W.heap.size 0 rfl (qList A B C room (some ad) 1 lc v0 v7 (s : Int)) _ (by exact HQ.out.range) Tryd.underlying28 rfl (by kernel_rfl) ?_) | (refine wpStill_load_mid (by rfl) 35 _ rfl sb (so + k * 10 + 2) (by first | rfl | exact congrArg (fun x => Value.pointer (some x)) (Addr.add_mid _ _ _)) (pktList p) _ (by exact HPR.out) Tryd.underlying35 rfl (by kernel_rfl) ?_) | still_step)
                          refine wpStill_nil ?_
                          change wpList _ _ _ _ _ (World.drew _)
                          obtain ⟨wd, hwd⟩ : ∃ x, World.drew wr = x := ⟨_, rfl⟩
                          rw [hwd]
                          have hbd : Below wr.heap.size wr wd := hwd ▸ below_drawn (Below.refl _ _)
                          clear hwd
                          go_wp2_with fail
                          refine (fate_at A B C room ad lc v0 v7 s xs wd (HoldsL.below ⟨a, c, hc, hr⟩ hbd) HOK.out (table_below HT.out (below_on HST.out.below hbd)) p HPO.out now' (by omega) (by omega) what s1 HV.out 2 HRES.out).mono ?_
                          rintro e w5 ⟨rfl, hb5⟩
                          have hb5' : Below wr.heap.size wr w5 := below_on hbd hb5
                          have hq5 := HQ.out.below hb5'
                          have q5 := hq5.cell 5 rfl
                          have q4 := hq5.cell 4 rfl
                          have zq := hq5.lt
                          have hc5 := below_cell_of hb5' hc
                          rw [hm] at hc5
                          have hp5 := rangeAt_below HPR.out hb5'
                          have y6 := hp5 6 _ rfl
                          rw [HAB.out] at y6
                          have HB5 := Lib.hid hb5'
                          have HQ5 := Lib.hid hq5
                          have HP5 := Lib.hid hp5
                          have hh5 : HoldsL w5 ad xs := HoldsL.below ⟨a, c, hc, hr⟩ hb5'
                          have HH5 := Lib.hid hh5
                          have zc := World.block_lt_of_cell? _ _ hc5
                          clear hb5 hb5' hbd hq5 hp5 hc hr hh5
                          go_wp2
                          go_quiet (fail)
                          go_upto_region 27 with fail
                          obtain ⟨w6, hw6⟩ : ∃ x, w5.drewN nq = x := ⟨_, rfl⟩
                          rw [hw6]
                          have hb6 : Below w5.heap.size w5 w6 := hw6 ▸ below_drawnN (Below.refl _ _) _
                          have HB6 := Lib.hid (below_on HB5.out hb6)
                          have HQ6 := Lib.hid (HQ5.out.below hb6)
                          have HP6 := Lib.hid (rangeAt_below HP5.out hb6)
                          have HH6 := Lib.hid (HH5.out.below hb6)
                          clear hw6 hb6 HB5 HQ5 HP5 HH5 q5 q4 zq hc5 y6 zc
                          obtain ⟨vn, hvn⟩ : ∃ z, Ea.avg v0 xs.length (2 ^ C.toNat) = z := ⟨_, rfl⟩
                          obtain ⟨xs', hxs⟩ : ∃ z, Ea.stays xs p now' what = z := ⟨_, rfl⟩
                          have hok' := HOK.out.put (now := now') (by omega) (by omega) HPO.out s
                          rw [HV.out] at hok'
                          simp only at hok'
                          rw [hvn, hxs] at hok'
                          have HOK' := Lib.hid hok'
                          have HXS := Lib.hid hxs
                          have HVN := Lib.hid hvn
                          have HTB6 := Lib.hid (table_below HT.out (below_on HST.out.below HB6.out))
                          clear hvn hxs hok'
                          go_cut [19] from 59 to 189 (fun u wx => ∃ kb g : Nat, u = .pointer (some ⟨kb, 0, none⟩) ∧ w6.heap.size ≤ kb ∧ Blk wx kb (qList A B C room (some ⟨g, 0, none⟩) 1 1 vn now' (s1 : Int)) ∧ Below w6.heap.size w6 wx ∧ HoldsT wx ⟨g, 0, none⟩ xs')
                          case first =>
                            refine wp_region_held_drew (S := (fun V => Below w6.heap.size w6 V)) (by kernel_rfl) ?_ (fun hHeld => ?_)
                            · exact below_drawn (Below.refl _ _)
                            refine wpAnyH_take (i := 0) (v := (.agg (qList A B C room (some ad) 1 lc v0 v7 (s : Int)).toArray)) rfl (by kernel_rfl) (by kernel_rfl) (by kernel_rfl) (fun _ _ _ h => h) (yieldsIf_load_mid (by rfl) 28 _ rfl W.heap.size 0 (by first | rfl | exact congrArg (fun x => Value.pointer (some x)) (Addr.add_mid _ _ _)) (qList A B C room (some ad) 1 lc v0 v7 (s : Int)) _ (fun _ h => (Blk.below HQ6.out h).range) Tryd.underlying28 rfl (by kernel_rfl)) hHeld ?_
                            try go_simp
                            refine wpAnyH_take (i := 1) (v := ?_) rfl (by kernel_rfl) (by kernel_rfl) (by kernel_rfl) (fun _ _ _ h => h) (Or.inl ⟨by rfl, ?_⟩) hHeld ?_
                            rotate_left
                            · intro wS hSw; obtain hS0 := hSw; go_simp; try with_reducible rfl
                            try go_simp
                            refine wpAnyH_take (i := 2) (v := ?_) rfl (by kernel_rfl) (by kernel_rfl) (by kernel_rfl) (fun _ _ _ h => h) (Or.inl ⟨by rfl, ?_⟩) hHeld ?_
                            rotate_left
                            · intro wS hSw; obtain hS0 := hSw; go_simp; try with_reducible rfl
                            try go_simp
                            refine wpAnyH_take (i := 3) (v := ?_) rfl (by kernel_rfl) (by kernel_rfl) (by kernel_rfl) (fun _ _ _ h => h) (Or.inl ⟨by rfl, ?_⟩) hHeld ?_
                            rotate_left
                            · intro wS hSw; obtain hS0 := hSw; go_simp; try with_reducible rfl
                            try go_simp
                            refine wpAnyH_take (i := 4) (v := ?_) rfl (by kernel_rfl) (by kernel_rfl) (by kernel_rfl) (fun _ _ _ h => h) (Or.inl ⟨by rfl, ?_⟩) hHeld ?_
                            rotate_left
                            · intro wS hSw; obtain hS0 := hSw; go_simp; try with_reducible rfl
                            try go_simp
                            refine wpAnyH_take (i := 5) (v := (.agg (pktList p).toArray)) rfl (by kernel_rfl) (by kernel_rfl) (by kernel_rfl) (fun _ _ _ h => h) (yieldsIf_load_mid (by rfl) 35 _ rfl sb (so + k * 10 + 2) (by first | rfl | exact congrArg (fun x => Value.pointer (some x)) (Addr.add_mid _ _ _)) (pktList p) _ (fun _ h => (rangeAt_below HP6.out h)) Tryd.underlying35 rfl (by kernel_rfl)) hHeld ?_
                            try go_simp
                            refine wpAnyH_take (i := 6) (v := ?_) rfl (by kernel_rfl) (by kernel_rfl) (by kernel_rfl) (fun _ _ _ h => h) (Or.inl ⟨by rfl, ?_⟩) hHeld ?_
                            rotate_left
                            · intro wS hSw; obtain hS0 := hSw; go_simp; try with_reducible rfl
                            try go_simp
                            refine wpAnyH_ready (rs := [7, 12]) (by kernel_rfl) (by simp) ?_
                            refine AllReadyH.cons rfl (fun K hK => ?_) (AllReadyH.cons rfl (fun K hK => ?_) AllReadyH.nil)
                            · go_simp
                              refine (put_t A B C room ad lc v0 v7 s xs _ (HH6.out.below hHeld) HOK.out (table_below HTB6.out hHeld) p HPO.out now' (by omega) (by omega) what s1 HV.out _ _ HVN.out HXS.out).mono ?_
                              rintro e V ⟨g, out, rfl, hb, hT⟩
                              have HTT := Lib.hid hT
                              have zv := (below_on hHeld hb).size
                              clear hT
                              refine hK.out _ _ ?_ ?_
                              · exact below_on hHeld hb
                              clear hK K hHeld hb
                              intro hHeld
                              try go_simp
                              refine wpAnyH_take (i := 8) (v := ?_) rfl (by kernel_rfl) (by kernel_rfl) (by kernel_rfl) (fun _ _ _ h => h) (Or.inl ⟨by rfl, ?_⟩) hHeld ?_
                              rotate_left
                              · intro wS hSw; obtain hS0 := hSw; go_simp; try with_reducible rfl
                              try go_simp
                              refine wpAnyH_take (i := 9) (v := ?_) rfl (by kernel_rfl) (by kernel_rfl) (by kernel_rfl) (fun _ _ _ h => h) (Or.inl ⟨by rfl, ?_⟩) hHeld ?_
                              rotate_left
                              · intro wS hSw; obtain hS0 := hSw; go_simp; try with_reducible rfl
                              try go_simp
                              refine wpAnyH_take (i := 10) (v := ?_) rfl (by kernel_rfl) (by kernel_rfl) (by kernel_rfl) (fun _ _ _ h => h) (Or.inl ⟨by rfl, ?_⟩) hHeld ?_
                              rotate_left
                              · intro wS hSw; obtain hS0 := hSw; go_simp; try with_reducible rfl
                              try go_simp
                              refine wpAnyH_take (i := 11) (v := ?_) rfl (by kernel_rfl) (by kernel_rfl) (by kernel_rfl) (fun _ _ _ h => h) (Or.inl ⟨by rfl, ?_⟩) hHeld ?_
                              rotate_left
                              · intro wS hSw; obtain hS0 := hSw; go_simp; try with_reducible rfl
                              try go_simp
                              refine wpAnyH_ready (rs := [12]) (by kernel_rfl) (by simp) ?_
                              refine AllReadyH.cons rfl (fun K hK => ?_) AllReadyH.nil
                              go_simp
                              have HZ0 := Lib.hid (Blk.new V zeroQ.toArray 28)
                              refine hK.out _ _ ?_ ?_
                              · exact below_new hHeld _
                              clear hK K hHeld
                              intro hHeld
                              try go_simp
                              refine wpAnyH_ready (rs := [13]) (by kernel_rfl) (by simp) ?_
                              refine AllReadyH.cons rfl (fun K hK => ?_) AllReadyH.nil
                              refine ready_store_blk (by rfl) _ 28 _ _ rfl V.heap.size zeroQ (qList A B C room (some ⟨g, 0, none⟩) 1 1 vn now' (s1 : Int)) rfl rfl HZ0.out (by kernel_rfl) rfl (qList_one _ _ _ _ _ _ _ _ _ _) ?_
                              intro V4 hq4 hg4
                              refine hK.out _ _ ?_ ?_
                              · exact below_grown hHeld hg4 (fun j hj => by injection hj with hj; subst hj; omega)
                              clear hK K hHeld
                              intro hHeld
                              try go_simp
                              refine wpAnyH_take (i := 14) (v := ?_) rfl (by kernel_rfl) (by kernel_rfl) (by kernel_rfl) (fun _ _ _ h => h) (Or.inl ⟨by rfl, ?_⟩) hHeld ?_
                              rotate_left
                              · intro wS hSw; obtain hS0 := hSw; go_simp; try with_reducible rfl
                              try go_simp
                              refine wpAnyH_take (i := 15) (v := ?_) rfl (by kernel_rfl) (by kernel_rfl) (by kernel_rfl) (fun _ _ _ h => h) (Or.inl ⟨by rfl, ?_⟩) hHeld ?_
                              rotate_left
                              · intro wS hSw; obtain hS0 := hSw; go_simp; try with_reducible rfl
                              try go_simp
                              refine wpAnyH_done (by kernel_rfl) ?_ _
                              go_wp2
                              go_meet
                              case rel => exact ⟨V.heap.size, g, rfl, by omega, hq4, hHeld, holdsT_small (HTT.out.below (below_new (Below.refl _ _) _)) HZ0.out rfl (small_q rfl rfl rfl) hg4⟩
                            · go_simp
                              have HZ0 := Lib.hid (Blk.new w6.drew zeroQ.toArray 28)
                              refine hK.out _ _ ?_ ?_
                              · exact below_new hHeld _
                              clear hK K hHeld
                              intro hHeld
                              try go_simp
                              refine wpAnyH_ready (rs := [7]) (by kernel_rfl) (by simp) ?_
                              refine AllReadyH.cons rfl (fun K hK => ?_) AllReadyH.nil
                              go_simp
                              refine (put_t A B C room ad lc v0 v7 s xs _ (HH6.out.below hHeld) HOK.out (table_below HTB6.out hHeld) p HPO.out now' (by omega) (by omega) what s1 HV.out _ _ HVN.out HXS.out).mono ?_
                              rintro e V ⟨g, out, rfl, hb, hT⟩
                              have HTT := Lib.hid hT
                              have zv := (below_on hHeld hb).size
                              clear hT
                              have HZ0 := Lib.hid (HZ0.out.below hb)
                              refine hK.out _ _ ?_ ?_
                              · exact below_on hHeld hb
                              clear hK K hHeld hb
                              intro hHeld
                              try go_simp
                              refine wpAnyH_take (i := 8) (v := ?_) rfl (by kernel_rfl) (by kernel_rfl) (by kernel_rfl) (fun _ _ _ h => h) (Or.inl ⟨by rfl, ?_⟩) hHeld ?_
                              rotate_left
                              · intro wS hSw; obtain hS0 := hSw; go_simp; try with_reducible rfl
                              try go_simp
                              refine wpAnyH_take (i := 9) (v := ?_) rfl (by kernel_rfl) (by kernel_rfl) (by kernel_rfl) (fun _ _ _ h => h) (Or.inl ⟨by rfl, ?_⟩) hHeld ?_
                              rotate_left
                              · intro wS hSw; obtain hS0 := hSw; go_simp; try with_reducible rfl
                              try go_simp
                              refine wpAnyH_take (i := 10) (v := ?_) rfl (by kernel_rfl) (by kernel_rfl) (by kernel_rfl) (fun _ _ _ h => h) (Or.inl ⟨by rfl, ?_⟩) hHeld ?_
                              rotate_left
                              · intro wS hSw; obtain hS0 := hSw; go_simp; try with_reducible rfl
                              try go_simp
                              refine wpAnyH_take (i := 11) (v := ?_) rfl (by kernel_rfl) (by kernel_rfl) (by kernel_rfl) (fun _ _ _ h => h) (Or.inl ⟨by rfl, ?_⟩) hHeld ?_
                              rotate_left
                              · intro wS hSw; obtain hS0 := hSw; go_simp; try with_reducible rfl
                              try go_simp
                              refine wpAnyH_ready (rs := [13]) (by kernel_rfl) (by simp) ?_
                              refine AllReadyH.cons rfl (fun K hK => ?_) AllReadyH.nil
                              refine ready_store_blk (by rfl) _ 28 _ _ rfl w6.heap.size zeroQ (qList A B C room (some ⟨g, 0, none⟩) 1 1 vn now' (s1 : Int)) rfl rfl HZ0.out (by kernel_rfl) rfl (qList_one _ _ _ _ _ _ _ _ _ _) ?_
                              intro V4 hq4 hg4
                              refine hK.out _ _ ?_ ?_
                              · exact below_grown hHeld hg4 (fun j hj => by injection hj with hj; subst hj; omega)
                              clear hK K hHeld
                              intro hHeld
                              try go_simp
                              refine wpAnyH_take (i := 14) (v := ?_) rfl (by kernel_rfl) (by kernel_rfl) (by kernel_rfl) (fun _ _ _ h => h) (Or.inl ⟨by rfl, ?_⟩) hHeld ?_
                              rotate_left
                              · intro wS hSw; obtain hS0 := hSw; go_simp; try with_reducible rfl
                              try go_simp
                              refine wpAnyH_take (i := 15) (v := ?_) rfl (by kernel_rfl) (by kernel_rfl) (by kernel_rfl) (fun _ _ _ h => h) (Or.inl ⟨by rfl, ?_⟩) hHeld ?_
                              rotate_left
                              · intro wS hSw; obtain hS0 := hSw; go_simp; try with_reducible rfl
                              try go_simp
                              refine wpAnyH_done (by kernel_rfl) ?_ _
                              go_wp2
                              go_meet
                              case rel => exact ⟨w6.heap.size, g, rfl, by omega, hq4, hHeld, holdsT_small HTT.out HZ0.out rfl (small_q rfl rfl rfl) hg4⟩
                          case rest =>
                            obtain ⟨kb, g, rfl, hkb, hqn, hbn, hT⟩ := hcut
                            obtain ⟨V, rfl⟩ : ∃ V, V = wc := ⟨_, rfl⟩
                            have hbV : Below wr.heap.size wr V := below_on HB6.out hbn
                            have HBV := Lib.hid hbV
                            have HTT := Lib.hid hT
                            have HQN := Lib.hid hqn
                            have HQ2 := Lib.hid (HQ6.out.below hbn)
                            have HPV := Lib.hid (rangeAt_below HP6.out hbn)
                            have zv := hbV.size
                            have z6 := HB6.out.size
                            have zq2 := HQ2.out.lt
                            have zk := hqn.lt
                            have zw := HST.out.below.size
                            have HOC := Lib.hid (own_below8 HST.out.c hbV)
                            have zo : ∀ b, vc.ownBlock = some b → b < wr.heap.size ∧ W.heap.size + 1 ≤ b := fun b e => ⟨(HST.out.c.lt b e).2, (HST.out.c.lt b e).1⟩
                            clear hbn hT hqn hbV HB6 HQ6 HP6 HH6 HTB6
                            go_wp2_with (first | (refine wpList_load_mid rfl 28 (.tmp 19) rfl kb 0 rfl (qList A B C room (some ⟨g, 0, none⟩) 1 1 vn now' (s1 : Int)) _ HQN.out.range Tryd.underlying28 rfl (by kernel_rfl) ?_) | (refine wpList_store_blk rfl 28 (.tmp 2) (.tmp 185) rfl W.heap.size (qList A B C room (some ad) 1 lc v0 v7 (s : Int)) (qList A B C room (some ⟨g, 0, none⟩) 1 1 vn now' (s1 : Int)) rfl rfl HQ2.out (by kernel_rfl) rfl (qList_one _ _ _ _ _ _ _ _ _ _) ?_; intro V6 hq6 hg6))
                            go_meet
                            case rel =>
                              exact ⟨_, _, rfl, rfl, xs', came, went, (HST.out.below' HBV.out).store HTT.out HOK'.out hg6 hq6, by rw [← HXS.out, HSTAY.out]; exact HKIN.out, by omega⟩
                      | true =>
                        as_aux_lemma =>
                          have hw2 : what = 2 := by
                            rcases Int.lt_trichotomy what 2 with h | h | h
                            · exact absurd ⟨by omega, hpa⟩ hno
                            · exact h
                            · omega
                          have hfull := verdict_full (hw2 ▸ HV.out)
                          have dr : decide ((m : Int) < room) = false := decide_eq_false (by omega)
                          have HAB := Lib.hid hpa
                          clear hpa h2 hst2 hno h3 hw2 hfull
                          go_wp2
                          refine wp_region_still_tail 7 (by kernel_rfl) (by kernel_rfl) ?_
                          simp only [List.take_succ_cons, List.take_zero, List.drop_succ_cons, List.drop_zero]
                          change wpStill _ _ (World.drew _) _ _ _
                          repeat (first | (refine wpStill_load_mid (by rfl) 28 _ rfl W.heap.size 0 rfl (qList A B C room (some ad) 1 lc v0 v7 (s : Int)) _ (by exact HQ.out.range) Tryd.underlying28 rfl (by kernel_rfl) ?_) | (refine wpStill_load_mid (by rfl) 35 _ rfl sb (so + k * 10 + 2) (by first | rfl | exact congrArg (fun x => Value.pointer (some x)) (Addr.add_mid _ _ _)) (pktList p) _ (by exact HPR.out) Tryd.underlying35 rfl (by kernel_rfl) ?_) | still_step)
                          refine wpStill_nil ?_
                          change wpList _ _ _ _ _ (World.drew _)
                          obtain ⟨wd, hwd⟩ : ∃ x, World.drew wr = x := ⟨_, rfl⟩
                          rw [hwd]
                          have hbd : Below wr.heap.size wr wd := hwd ▸ below_drawn (Below.refl _ _)
                          clear hwd
                          go_wp2_with fail
                          refine (fate_at A B C room ad lc v0 v7 s xs wd (HoldsL.below ⟨a, c, hc, hr⟩ hbd) HOK.out (table_below HT.out (below_on HST.out.below hbd)) p HPO.out now' (by omega) (by omega) what s1 HV.out 2 HRES.out).mono ?_
                          rintro e w5 ⟨rfl, hb5⟩
                          have hb5' : Below wr.heap.size wr w5 := below_on hbd hb5
                          have hq5 := HQ.out.below hb5'
                          have q5 := hq5.cell 5 rfl
                          have q4 := hq5.cell 4 rfl
                          have zq := hq5.lt
                          have hc5 := below_cell_of hb5' hc
                          rw [hm] at hc5
                          have hp5 := rangeAt_below HPR.out hb5'
                          have y6 := hp5 6 _ rfl
                          rw [HAB.out] at y6
                          have HB5 := Lib.hid hb5'
                          have HQ5 := Lib.hid hq5
                          have HP5 := Lib.hid hp5
                          have hh5 : HoldsL w5 ad xs := HoldsL.below ⟨a, c, hc, hr⟩ hb5'
                          have HH5 := Lib.hid hh5
                          have zc := World.block_lt_of_cell? _ _ hc5
                          clear hb5 hb5' hbd hq5 hp5 hc hr hh5
                          go_wp2
                          go_quiet (fail)
                          go_upto_region 27 with fail
                          obtain ⟨w6, hw6⟩ : ∃ x, w5.drewN nq = x := ⟨_, rfl⟩
                          rw [hw6]
                          have hb6 : Below w5.heap.size w5 w6 := hw6 ▸ below_drawnN (Below.refl _ _) _
                          have HB6 := Lib.hid (below_on HB5.out hb6)
                          have HQ6 := Lib.hid (HQ5.out.below hb6)
                          have HP6 := Lib.hid (rangeAt_below HP5.out hb6)
                          have HH6 := Lib.hid (HH5.out.below hb6)
                          clear hw6 hb6 HB5 HQ5 HP5 HH5 q5 q4 zq hc5 y6 zc
                          obtain ⟨vn, hvn⟩ : ∃ z, Ea.avg v0 xs.length (2 ^ C.toNat) = z := ⟨_, rfl⟩
                          obtain ⟨xs', hxs⟩ : ∃ z, Ea.stays xs p now' what = z := ⟨_, rfl⟩
                          have hok' := HOK.out.put (now := now') (by omega) (by omega) HPO.out s
                          rw [HV.out] at hok'
                          simp only at hok'
                          rw [hvn, hxs] at hok'
                          have HOK' := Lib.hid hok'
                          have HXS := Lib.hid hxs
                          have HVN := Lib.hid hvn
                          have HTB6 := Lib.hid (table_below HT.out (below_on HST.out.below HB6.out))
                          clear hvn hxs hok'
                          go_cut [19] from 59 to 189 (fun u wx => ∃ kb g : Nat, u = .pointer (some ⟨kb, 0, none⟩) ∧ w6.heap.size ≤ kb ∧ Blk wx kb (qList A B C room (some ⟨g, 0, none⟩) 1 1 vn now' (s1 : Int)) ∧ Below w6.heap.size w6 wx ∧ HoldsT wx ⟨g, 0, none⟩ xs')
                          case first =>
                            refine wp_region_held_drew (S := (fun V => Below w6.heap.size w6 V)) (by kernel_rfl) ?_ (fun hHeld => ?_)
                            · exact below_drawn (Below.refl _ _)
                            refine wpAnyH_take (i := 0) (v := (.agg (qList A B C room (some ad) 1 lc v0 v7 (s : Int)).toArray)) rfl (by kernel_rfl) (by kernel_rfl) (by kernel_rfl) (fun _ _ _ h => h) (yieldsIf_load_mid (by rfl) 28 _ rfl W.heap.size 0 (by first | rfl | exact congrArg (fun x => Value.pointer (some x)) (Addr.add_mid _ _ _)) (qList A B C room (some ad) 1 lc v0 v7 (s : Int)) _ (fun _ h => (Blk.below HQ6.out h).range) Tryd.underlying28 rfl (by kernel_rfl)) hHeld ?_
                            try go_simp
                            refine wpAnyH_take (i := 1) (v := ?_) rfl (by kernel_rfl) (by kernel_rfl) (by kernel_rfl) (fun _ _ _ h => h) (Or.inl ⟨by rfl, ?_⟩) hHeld ?_
                            rotate_left
                            · intro wS hSw; obtain hS0 := hSw; go_simp; try with_reducible rfl
                            try go_simp
                            refine wpAnyH_take (i := 2) (v := ?_) rfl (by kernel_rfl) (by kernel_rfl) (by kernel_rfl) (fun _ _ _ h => h) (Or.inl ⟨by rfl, ?_⟩) hHeld ?_
                            rotate_left
                            · intro wS hSw; obtain hS0 := hSw; go_simp; try with_reducible rfl
                            try go_simp
                            refine wpAnyH_take (i := 3) (v := ?_) rfl (by kernel_rfl) (by kernel_rfl) (by kernel_rfl) (fun _ _ _ h => h) (Or.inl ⟨by rfl, ?_⟩) hHeld ?_
                            rotate_left
                            · intro wS hSw; obtain hS0 := hSw; go_simp; try with_reducible rfl
                            try go_simp
                            refine wpAnyH_take (i := 4) (v := ?_) rfl (by kernel_rfl) (by kernel_rfl) (by kernel_rfl) (fun _ _ _ h => h) (Or.inl ⟨by rfl, ?_⟩) hHeld ?_
                            rotate_left
                            · intro wS hSw; obtain hS0 := hSw; go_simp; try with_reducible rfl
                            try go_simp
                            refine wpAnyH_take (i := 5) (v := (.agg (pktList p).toArray)) rfl (by kernel_rfl) (by kernel_rfl) (by kernel_rfl) (fun _ _ _ h => h) (yieldsIf_load_mid (by rfl) 35 _ rfl sb (so + k * 10 + 2) (by first | rfl | exact congrArg (fun x => Value.pointer (some x)) (Addr.add_mid _ _ _)) (pktList p) _ (fun _ h => (rangeAt_below HP6.out h)) Tryd.underlying35 rfl (by kernel_rfl)) hHeld ?_
                            try go_simp
                            refine wpAnyH_take (i := 6) (v := ?_) rfl (by kernel_rfl) (by kernel_rfl) (by kernel_rfl) (fun _ _ _ h => h) (Or.inl ⟨by rfl, ?_⟩) hHeld ?_
                            rotate_left
                            · intro wS hSw; obtain hS0 := hSw; go_simp; try with_reducible rfl
                            try go_simp
                            refine wpAnyH_ready (rs := [7, 12]) (by kernel_rfl) (by simp) ?_
                            refine AllReadyH.cons rfl (fun K hK => ?_) (AllReadyH.cons rfl (fun K hK => ?_) AllReadyH.nil)
                            · go_simp
                              refine (put_t A B C room ad lc v0 v7 s xs _ (HH6.out.below hHeld) HOK.out (table_below HTB6.out hHeld) p HPO.out now' (by omega) (by omega) what s1 HV.out _ _ HVN.out HXS.out).mono ?_
                              rintro e V ⟨g, out, rfl, hb, hT⟩
                              have HTT := Lib.hid hT
                              have zv := (below_on hHeld hb).size
                              clear hT
                              refine hK.out _ _ ?_ ?_
                              · exact below_on hHeld hb
                              clear hK K hHeld hb
                              intro hHeld
                              try go_simp
                              refine wpAnyH_take (i := 8) (v := ?_) rfl (by kernel_rfl) (by kernel_rfl) (by kernel_rfl) (fun _ _ _ h => h) (Or.inl ⟨by rfl, ?_⟩) hHeld ?_
                              rotate_left
                              · intro wS hSw; obtain hS0 := hSw; go_simp; try with_reducible rfl
                              try go_simp
                              refine wpAnyH_take (i := 9) (v := ?_) rfl (by kernel_rfl) (by kernel_rfl) (by kernel_rfl) (fun _ _ _ h => h) (Or.inl ⟨by rfl, ?_⟩) hHeld ?_
                              rotate_left
                              · intro wS hSw; obtain hS0 := hSw; go_simp; try with_reducible rfl
                              try go_simp
                              refine wpAnyH_take (i := 10) (v := ?_) rfl (by kernel_rfl) (by kernel_rfl) (by kernel_rfl) (fun _ _ _ h => h) (Or.inl ⟨by rfl, ?_⟩) hHeld ?_
                              rotate_left
                              · intro wS hSw; obtain hS0 := hSw; go_simp; try with_reducible rfl
                              try go_simp
                              refine wpAnyH_take (i := 11) (v := ?_) rfl (by kernel_rfl) (by kernel_rfl) (by kernel_rfl) (fun _ _ _ h => h) (Or.inl ⟨by rfl, ?_⟩) hHeld ?_
                              rotate_left
                              · intro wS hSw; obtain hS0 := hSw; go_simp; try with_reducible rfl
                              try go_simp
                              refine wpAnyH_ready (rs := [12]) (by kernel_rfl) (by simp) ?_
                              refine AllReadyH.cons rfl (fun K hK => ?_) AllReadyH.nil
                              go_simp
                              have HZ0 := Lib.hid (Blk.new V zeroQ.toArray 28)
                              refine hK.out _ _ ?_ ?_
                              · exact below_new hHeld _
                              clear hK K hHeld
                              intro hHeld
                              try go_simp
                              refine wpAnyH_ready (rs := [13]) (by kernel_rfl) (by simp) ?_
                              refine AllReadyH.cons rfl (fun K hK => ?_) AllReadyH.nil
                              refine ready_store_blk (by rfl) _ 28 _ _ rfl V.heap.size zeroQ (qList A B C room (some ⟨g, 0, none⟩) 1 1 vn now' (s1 : Int)) rfl rfl HZ0.out (by kernel_rfl) rfl (qList_one _ _ _ _ _ _ _ _ _ _) ?_
                              intro V4 hq4 hg4
                              refine hK.out _ _ ?_ ?_
                              · exact below_grown hHeld hg4 (fun j hj => by injection hj with hj; subst hj; omega)
                              clear hK K hHeld
                              intro hHeld
                              try go_simp
                              refine wpAnyH_take (i := 14) (v := ?_) rfl (by kernel_rfl) (by kernel_rfl) (by kernel_rfl) (fun _ _ _ h => h) (Or.inl ⟨by rfl, ?_⟩) hHeld ?_
                              rotate_left
                              · intro wS hSw; obtain hS0 := hSw; go_simp; try with_reducible rfl
                              try go_simp
                              refine wpAnyH_take (i := 15) (v := ?_) rfl (by kernel_rfl) (by kernel_rfl) (by kernel_rfl) (fun _ _ _ h => h) (Or.inl ⟨by rfl, ?_⟩) hHeld ?_
                              rotate_left
                              · intro wS hSw; obtain hS0 := hSw; go_simp; try with_reducible rfl
                              try go_simp
                              refine wpAnyH_done (by kernel_rfl) ?_ _
                              go_wp2
                              go_meet
                              case rel => exact ⟨V.heap.size, g, rfl, by omega, hq4, hHeld, holdsT_small (HTT.out.below (below_new (Below.refl _ _) _)) HZ0.out rfl (small_q rfl rfl rfl) hg4⟩
                            · go_simp
                              have HZ0 := Lib.hid (Blk.new w6.drew zeroQ.toArray 28)
                              refine hK.out _ _ ?_ ?_
                              · exact below_new hHeld _
                              clear hK K hHeld
                              intro hHeld
                              try go_simp
                              refine wpAnyH_ready (rs := [7]) (by kernel_rfl) (by simp) ?_
                              refine AllReadyH.cons rfl (fun K hK => ?_) AllReadyH.nil
                              go_simp
                              refine (put_t A B C room ad lc v0 v7 s xs _ (HH6.out.below hHeld) HOK.out (table_below HTB6.out hHeld) p HPO.out now' (by omega) (by omega) what s1 HV.out _ _ HVN.out HXS.out).mono ?_
                              rintro e V ⟨g, out, rfl, hb, hT⟩
                              have HTT := Lib.hid hT
                              have zv := (below_on hHeld hb).size
                              clear hT
                              have HZ0 := Lib.hid (HZ0.out.below hb)
                              refine hK.out _ _ ?_ ?_
                              · exact below_on hHeld hb
                              clear hK K hHeld hb
                              intro hHeld
                              try go_simp
                              refine wpAnyH_take (i := 8) (v := ?_) rfl (by kernel_rfl) (by kernel_rfl) (by kernel_rfl) (fun _ _ _ h => h) (Or.inl ⟨by rfl, ?_⟩) hHeld ?_
                              rotate_left
                              · intro wS hSw; obtain hS0 := hSw; go_simp; try with_reducible rfl
                              try go_simp
                              refine wpAnyH_take (i := 9) (v := ?_) rfl (by kernel_rfl) (by kernel_rfl) (by kernel_rfl) (fun _ _ _ h => h) (Or.inl ⟨by rfl, ?_⟩) hHeld ?_
                              rotate_left
                              · intro wS hSw; obtain hS0 := hSw; go_simp; try with_reducible rfl
                              try go_simp
                              refine wpAnyH_take (i := 10) (v := ?_) rfl (by kernel_rfl) (by kernel_rfl) (by kernel_rfl) (fun _ _ _ h => h) (Or.inl ⟨by rfl, ?_⟩) hHeld ?_
                              rotate_left
                              · intro wS hSw; obtain hS0 := hSw; go_simp; try with_reducible rfl
                              try go_simp
                              refine wpAnyH_take (i := 11) (v := ?_) rfl (by kernel_rfl) (by kernel_rfl) (by kernel_rfl) (fun _ _ _ h => h) (Or.inl ⟨by rfl, ?_⟩) hHeld ?_
                              rotate_left
                              · intro wS hSw; obtain hS0 := hSw; go_simp; try with_reducible rfl
                              try go_simp
                              refine wpAnyH_ready (rs := [13]) (by kernel_rfl) (by simp) ?_
                              refine AllReadyH.cons rfl (fun K hK => ?_) AllReadyH.nil
                              refine ready_store_blk (by rfl) _ 28 _ _ rfl w6.heap.size zeroQ (qList A B C room (some ⟨g, 0, none⟩) 1 1 vn now' (s1 : Int)) rfl rfl HZ0.out (by kernel_rfl) rfl (qList_one _ _ _ _ _ _ _ _ _ _) ?_
                              intro V4 hq4 hg4
                              refine hK.out _ _ ?_ ?_
                              · exact below_grown hHeld hg4 (fun j hj => by injection hj with hj; subst hj; omega)
                              clear hK K hHeld
                              intro hHeld
                              try go_simp
                              refine wpAnyH_take (i := 14) (v := ?_) rfl (by kernel_rfl) (by kernel_rfl) (by kernel_rfl) (fun _ _ _ h => h) (Or.inl ⟨by rfl, ?_⟩) hHeld ?_
                              rotate_left
                              · intro wS hSw; obtain hS0 := hSw; go_simp; try with_reducible rfl
                              try go_simp
                              refine wpAnyH_take (i := 15) (v := ?_) rfl (by kernel_rfl) (by kernel_rfl) (by kernel_rfl) (fun _ _ _ h => h) (Or.inl ⟨by rfl, ?_⟩) hHeld ?_
                              rotate_left
                              · intro wS hSw; obtain hS0 := hSw; go_simp; try with_reducible rfl
                              try go_simp
                              refine wpAnyH_done (by kernel_rfl) ?_ _
                              go_wp2
                              go_meet
                              case rel => exact ⟨w6.heap.size, g, rfl, by omega, hq4, hHeld, holdsT_small HTT.out HZ0.out rfl (small_q rfl rfl rfl) hg4⟩
                          case rest =>
                            obtain ⟨kb, g, rfl, hkb, hqn, hbn, hT⟩ := hcut
                            obtain ⟨V, rfl⟩ : ∃ V, V = wc := ⟨_, rfl⟩
                            have hbV : Below wr.heap.size wr V := below_on HB6.out hbn
                            have HBV := Lib.hid hbV
                            have HTT := Lib.hid hT
                            have HQN := Lib.hid hqn
                            have HQ2 := Lib.hid (HQ6.out.below hbn)
                            have HPV := Lib.hid (rangeAt_below HP6.out hbn)
                            have zv := hbV.size
                            have z6 := HB6.out.size
                            have zq2 := HQ2.out.lt
                            have zk := hqn.lt
                            have zw := HST.out.below.size
                            have HOC := Lib.hid (own_below8 HST.out.c hbV)
                            have zo : ∀ b, vc.ownBlock = some b → b < wr.heap.size ∧ W.heap.size + 1 ≤ b := fun b e => ⟨(HST.out.c.lt b e).2, (HST.out.c.lt b e).1⟩
                            clear hbn hT hqn hbV HB6 HQ6 HP6 HH6 HTB6
                            go_wp2_with (first | (refine wpList_load_mid rfl 28 (.tmp 19) rfl kb 0 rfl (qList A B C room (some ⟨g, 0, none⟩) 1 1 vn now' (s1 : Int)) _ HQN.out.range Tryd.underlying28 rfl (by kernel_rfl) ?_) | (refine wpList_store_blk rfl 28 (.tmp 2) (.tmp 185) rfl W.heap.size (qList A B C room (some ad) 1 lc v0 v7 (s : Int)) (qList A B C room (some ⟨g, 0, none⟩) 1 1 vn now' (s1 : Int)) rfl rfl HQ2.out (by kernel_rfl) rfl (qList_one _ _ _ _ _ _ _ _ _ _) ?_; intro V6 hq6 hg6))
                            go_meet
                            case rel =>
                              exact ⟨_, _, rfl, rfl, xs', came, went, (HST.out.below' HBV.out).store HTT.out HOK'.out hg6 hq6, by rw [← HXS.out, HSTAY.out]; exact HKIN.out, by omega⟩
                    · have HKIN' := Lib.hid hkin'
                      by_cases h1 : Ea.fated what p.able p.marked = 1
                      · as_aux_lemma =>
                        have HRES := Lib.hid h1
                        have HAB := Lib.hid (hab h1)
                        clear h1 hkin' hab hlt2 hge2 h3
                        go_wp2
                        refine wp_region_still_tail 7 (by kernel_rfl) (by kernel_rfl) ?_
                        simp only [List.take_succ_cons, List.take_zero, List.drop_succ_cons, List.drop_zero]
                        change wpStill _ _ (World.drew _) _ _ _
                        repeat (first | (refine wpStill_load_mid (by rfl) 28 _ rfl W.heap.size 0 rfl (qList A B C room (some ad) 1 lc v0 v7 (s : Int)) _ (by exact HQ.out.range) Tryd.underlying28 rfl (by kernel_rfl) ?_) | (refine wpStill_load_mid (by rfl) 35 _ rfl sb (so + k * 10 + 2) (by first | rfl | exact congrArg (fun x => Value.pointer (some x)) (Addr.add_mid _ _ _)) (pktList p) _ (by exact HPR.out) Tryd.underlying35 rfl (by kernel_rfl) ?_) | still_step)
                        refine wpStill_nil ?_
                        change wpList _ _ _ _ _ (World.drew _)
                        obtain ⟨wd, hwd⟩ : ∃ x, World.drew wr = x := ⟨_, rfl⟩
                        rw [hwd]
                        have hbd : Below wr.heap.size wr wd := hwd ▸ below_drawn (Below.refl _ _)
                        clear hwd
                        go_wp2_with fail
                        refine (fate_at A B C room ad lc v0 v7 s xs wd (HoldsL.below ⟨a, c, hc, hr⟩ hbd) HOK.out (table_below HT.out (below_on HST.out.below hbd)) p HPO.out now' (by omega) (by omega) what s1 HV.out 1 HRES.out).mono ?_
                        rintro e w5 ⟨rfl, hb5⟩
                        have hb5' : Below wr.heap.size wr w5 := below_on hbd hb5
                        have hq5 := HQ.out.below hb5'
                        have q5 := hq5.cell 5 rfl
                        have q4 := hq5.cell 4 rfl
                        have zq := hq5.lt
                        have hc5 := below_cell_of hb5' hc
                        rw [hm] at hc5
                        have hp5 := rangeAt_below HPR.out hb5'
                        have y6 := hp5 6 _ rfl
                        rw [HAB.out] at y6
                        have HB5 := Lib.hid hb5'
                        have HQ5 := Lib.hid hq5
                        have HP5 := Lib.hid hp5
                        have hh5 : HoldsL w5 ad xs := HoldsL.below ⟨a, c, hc, hr⟩ hb5'
                        have HH5 := Lib.hid hh5
                        have zc := World.block_lt_of_cell? _ _ hc5
                        clear hb5 hb5' hbd hq5 hp5 hc hr hh5
                        go_wp2
                        go_quiet (fail)
                        go_upto_region 27 with fail
                        obtain ⟨w6, hw6⟩ : ∃ x, w5.drewN nq = x := ⟨_, rfl⟩
                        rw [hw6]
                        have hb6 : Below w5.heap.size w5 w6 := hw6 ▸ below_drawnN (Below.refl _ _) _
                        have HB6 := Lib.hid (below_on HB5.out hb6)
                        have HQ6 := Lib.hid (HQ5.out.below hb6)
                        have HP6 := Lib.hid (rangeAt_below HP5.out hb6)
                        have HH6 := Lib.hid (HH5.out.below hb6)
                        clear hw6 hb6 HB5 HQ5 HP5 HH5 q5 q4 zq hc5 y6 zc
                        obtain ⟨vn, hvn⟩ : ∃ z, Ea.avg v0 xs.length (2 ^ C.toNat) = z := ⟨_, rfl⟩
                        obtain ⟨xs', hxs⟩ : ∃ z, Ea.stays xs p now' what = z := ⟨_, rfl⟩
                        have hok' := HOK.out.put (now := now') (by omega) (by omega) HPO.out s
                        rw [HV.out] at hok'
                        simp only at hok'
                        rw [hvn, hxs] at hok'
                        have HOK' := Lib.hid hok'
                        have HXS := Lib.hid hxs
                        have HVN := Lib.hid hvn
                        have HTB6 := Lib.hid (table_below HT.out (below_on HST.out.below HB6.out))
                        clear hvn hxs hok'
                        go_cut [19] from 59 to 189 (fun u wx => ∃ kb g : Nat, u = .pointer (some ⟨kb, 0, none⟩) ∧ w6.heap.size ≤ kb ∧ Blk wx kb (qList A B C room (some ⟨g, 0, none⟩) 1 1 vn now' (s1 : Int)) ∧ Below w6.heap.size w6 wx ∧ HoldsT wx ⟨g, 0, none⟩ xs')
                        case first =>
                          refine wp_region_held_drew (S := (fun V => Below w6.heap.size w6 V)) (by kernel_rfl) ?_ (fun hHeld => ?_)
                          · exact below_drawn (Below.refl _ _)
                          refine wpAnyH_take (i := 0) (v := (.agg (qList A B C room (some ad) 1 lc v0 v7 (s : Int)).toArray)) rfl (by kernel_rfl) (by kernel_rfl) (by kernel_rfl) (fun _ _ _ h => h) (yieldsIf_load_mid (by rfl) 28 _ rfl W.heap.size 0 (by first | rfl | exact congrArg (fun x => Value.pointer (some x)) (Addr.add_mid _ _ _)) (qList A B C room (some ad) 1 lc v0 v7 (s : Int)) _ (fun _ h => (Blk.below HQ6.out h).range) Tryd.underlying28 rfl (by kernel_rfl)) hHeld ?_
                          try go_simp
                          refine wpAnyH_take (i := 1) (v := ?_) rfl (by kernel_rfl) (by kernel_rfl) (by kernel_rfl) (fun _ _ _ h => h) (Or.inl ⟨by rfl, ?_⟩) hHeld ?_
                          rotate_left
                          · intro wS hSw; obtain hS0 := hSw; go_simp; try with_reducible rfl
                          try go_simp
                          refine wpAnyH_take (i := 2) (v := ?_) rfl (by kernel_rfl) (by kernel_rfl) (by kernel_rfl) (fun _ _ _ h => h) (Or.inl ⟨by rfl, ?_⟩) hHeld ?_
                          rotate_left
                          · intro wS hSw; obtain hS0 := hSw; go_simp; try with_reducible rfl
                          try go_simp
                          refine wpAnyH_take (i := 3) (v := ?_) rfl (by kernel_rfl) (by kernel_rfl) (by kernel_rfl) (fun _ _ _ h => h) (Or.inl ⟨by rfl, ?_⟩) hHeld ?_
                          rotate_left
                          · intro wS hSw; obtain hS0 := hSw; go_simp; try with_reducible rfl
                          try go_simp
                          refine wpAnyH_take (i := 4) (v := ?_) rfl (by kernel_rfl) (by kernel_rfl) (by kernel_rfl) (fun _ _ _ h => h) (Or.inl ⟨by rfl, ?_⟩) hHeld ?_
                          rotate_left
                          · intro wS hSw; obtain hS0 := hSw; go_simp; try with_reducible rfl
                          try go_simp
                          refine wpAnyH_take (i := 5) (v := (.agg (pktList p).toArray)) rfl (by kernel_rfl) (by kernel_rfl) (by kernel_rfl) (fun _ _ _ h => h) (yieldsIf_load_mid (by rfl) 35 _ rfl sb (so + k * 10 + 2) (by first | rfl | exact congrArg (fun x => Value.pointer (some x)) (Addr.add_mid _ _ _)) (pktList p) _ (fun _ h => (rangeAt_below HP6.out h)) Tryd.underlying35 rfl (by kernel_rfl)) hHeld ?_
                          try go_simp
                          refine wpAnyH_take (i := 6) (v := ?_) rfl (by kernel_rfl) (by kernel_rfl) (by kernel_rfl) (fun _ _ _ h => h) (Or.inl ⟨by rfl, ?_⟩) hHeld ?_
                          rotate_left
                          · intro wS hSw; obtain hS0 := hSw; go_simp; try with_reducible rfl
                          try go_simp
                          refine wpAnyH_ready (rs := [7, 12]) (by kernel_rfl) (by simp) ?_
                          refine AllReadyH.cons rfl (fun K hK => ?_) (AllReadyH.cons rfl (fun K hK => ?_) AllReadyH.nil)
                          · go_simp
                            refine (put_t A B C room ad lc v0 v7 s xs _ (HH6.out.below hHeld) HOK.out (table_below HTB6.out hHeld) p HPO.out now' (by omega) (by omega) what s1 HV.out _ _ HVN.out HXS.out).mono ?_
                            rintro e V ⟨g, out, rfl, hb, hT⟩
                            have HTT := Lib.hid hT
                            have zv := (below_on hHeld hb).size
                            clear hT
                            refine hK.out _ _ ?_ ?_
                            · exact below_on hHeld hb
                            clear hK K hHeld hb
                            intro hHeld
                            try go_simp
                            refine wpAnyH_take (i := 8) (v := ?_) rfl (by kernel_rfl) (by kernel_rfl) (by kernel_rfl) (fun _ _ _ h => h) (Or.inl ⟨by rfl, ?_⟩) hHeld ?_
                            rotate_left
                            · intro wS hSw; obtain hS0 := hSw; go_simp; try with_reducible rfl
                            try go_simp
                            refine wpAnyH_take (i := 9) (v := ?_) rfl (by kernel_rfl) (by kernel_rfl) (by kernel_rfl) (fun _ _ _ h => h) (Or.inl ⟨by rfl, ?_⟩) hHeld ?_
                            rotate_left
                            · intro wS hSw; obtain hS0 := hSw; go_simp; try with_reducible rfl
                            try go_simp
                            refine wpAnyH_take (i := 10) (v := ?_) rfl (by kernel_rfl) (by kernel_rfl) (by kernel_rfl) (fun _ _ _ h => h) (Or.inl ⟨by rfl, ?_⟩) hHeld ?_
                            rotate_left
                            · intro wS hSw; obtain hS0 := hSw; go_simp; try with_reducible rfl
                            try go_simp
                            refine wpAnyH_take (i := 11) (v := ?_) rfl (by kernel_rfl) (by kernel_rfl) (by kernel_rfl) (fun _ _ _ h => h) (Or.inl ⟨by rfl, ?_⟩) hHeld ?_
                            rotate_left
                            · intro wS hSw; obtain hS0 := hSw; go_simp; try with_reducible rfl
                            try go_simp
                            refine wpAnyH_ready (rs := [12]) (by kernel_rfl) (by simp) ?_
                            refine AllReadyH.cons rfl (fun K hK => ?_) AllReadyH.nil
                            go_simp
                            have HZ0 := Lib.hid (Blk.new V zeroQ.toArray 28)
                            refine hK.out _ _ ?_ ?_
                            · exact below_new hHeld _
                            clear hK K hHeld
                            intro hHeld
                            try go_simp
                            refine wpAnyH_ready (rs := [13]) (by kernel_rfl) (by simp) ?_
                            refine AllReadyH.cons rfl (fun K hK => ?_) AllReadyH.nil
                            refine ready_store_blk (by rfl) _ 28 _ _ rfl V.heap.size zeroQ (qList A B C room (some ⟨g, 0, none⟩) 1 1 vn now' (s1 : Int)) rfl rfl HZ0.out (by kernel_rfl) rfl (qList_one _ _ _ _ _ _ _ _ _ _) ?_
                            intro V4 hq4 hg4
                            refine hK.out _ _ ?_ ?_
                            · exact below_grown hHeld hg4 (fun j hj => by injection hj with hj; subst hj; omega)
                            clear hK K hHeld
                            intro hHeld
                            try go_simp
                            refine wpAnyH_take (i := 14) (v := ?_) rfl (by kernel_rfl) (by kernel_rfl) (by kernel_rfl) (fun _ _ _ h => h) (Or.inl ⟨by rfl, ?_⟩) hHeld ?_
                            rotate_left
                            · intro wS hSw; obtain hS0 := hSw; go_simp; try with_reducible rfl
                            try go_simp
                            refine wpAnyH_take (i := 15) (v := ?_) rfl (by kernel_rfl) (by kernel_rfl) (by kernel_rfl) (fun _ _ _ h => h) (Or.inl ⟨by rfl, ?_⟩) hHeld ?_
                            rotate_left
                            · intro wS hSw; obtain hS0 := hSw; go_simp; try with_reducible rfl
                            try go_simp
                            refine wpAnyH_done (by kernel_rfl) ?_ _
                            go_wp2
                            go_meet
                            case rel => exact ⟨V.heap.size, g, rfl, by omega, hq4, hHeld, holdsT_small (HTT.out.below (below_new (Below.refl _ _) _)) HZ0.out rfl (small_q rfl rfl rfl) hg4⟩
                          · go_simp
                            have HZ0 := Lib.hid (Blk.new w6.drew zeroQ.toArray 28)
                            refine hK.out _ _ ?_ ?_
                            · exact below_new hHeld _
                            clear hK K hHeld
                            intro hHeld
                            try go_simp
                            refine wpAnyH_ready (rs := [7]) (by kernel_rfl) (by simp) ?_
                            refine AllReadyH.cons rfl (fun K hK => ?_) AllReadyH.nil
                            go_simp
                            refine (put_t A B C room ad lc v0 v7 s xs _ (HH6.out.below hHeld) HOK.out (table_below HTB6.out hHeld) p HPO.out now' (by omega) (by omega) what s1 HV.out _ _ HVN.out HXS.out).mono ?_
                            rintro e V ⟨g, out, rfl, hb, hT⟩
                            have HTT := Lib.hid hT
                            have zv := (below_on hHeld hb).size
                            clear hT
                            have HZ0 := Lib.hid (HZ0.out.below hb)
                            refine hK.out _ _ ?_ ?_
                            · exact below_on hHeld hb
                            clear hK K hHeld hb
                            intro hHeld
                            try go_simp
                            refine wpAnyH_take (i := 8) (v := ?_) rfl (by kernel_rfl) (by kernel_rfl) (by kernel_rfl) (fun _ _ _ h => h) (Or.inl ⟨by rfl, ?_⟩) hHeld ?_
                            rotate_left
                            · intro wS hSw; obtain hS0 := hSw; go_simp; try with_reducible rfl
                            try go_simp
                            refine wpAnyH_take (i := 9) (v := ?_) rfl (by kernel_rfl) (by kernel_rfl) (by kernel_rfl) (fun _ _ _ h => h) (Or.inl ⟨by rfl, ?_⟩) hHeld ?_
                            rotate_left
                            · intro wS hSw; obtain hS0 := hSw; go_simp; try with_reducible rfl
                            try go_simp
                            refine wpAnyH_take (i := 10) (v := ?_) rfl (by kernel_rfl) (by kernel_rfl) (by kernel_rfl) (fun _ _ _ h => h) (Or.inl ⟨by rfl, ?_⟩) hHeld ?_
                            rotate_left
                            · intro wS hSw; obtain hS0 := hSw; go_simp; try with_reducible rfl
                            try go_simp
                            refine wpAnyH_take (i := 11) (v := ?_) rfl (by kernel_rfl) (by kernel_rfl) (by kernel_rfl) (fun _ _ _ h => h) (Or.inl ⟨by rfl, ?_⟩) hHeld ?_
                            rotate_left
                            · intro wS hSw; obtain hS0 := hSw; go_simp; try with_reducible rfl
                            try go_simp
                            refine wpAnyH_ready (rs := [13]) (by kernel_rfl) (by simp) ?_
                            refine AllReadyH.cons rfl (fun K hK => ?_) AllReadyH.nil
                            refine ready_store_blk (by rfl) _ 28 _ _ rfl w6.heap.size zeroQ (qList A B C room (some ⟨g, 0, none⟩) 1 1 vn now' (s1 : Int)) rfl rfl HZ0.out (by kernel_rfl) rfl (qList_one _ _ _ _ _ _ _ _ _ _) ?_
                            intro V4 hq4 hg4
                            refine hK.out _ _ ?_ ?_
                            · exact below_grown hHeld hg4 (fun j hj => by injection hj with hj; subst hj; omega)
                            clear hK K hHeld
                            intro hHeld
                            try go_simp
                            refine wpAnyH_take (i := 14) (v := ?_) rfl (by kernel_rfl) (by kernel_rfl) (by kernel_rfl) (fun _ _ _ h => h) (Or.inl ⟨by rfl, ?_⟩) hHeld ?_
                            rotate_left
                            · intro wS hSw; obtain hS0 := hSw; go_simp; try with_reducible rfl
                            try go_simp
                            refine wpAnyH_take (i := 15) (v := ?_) rfl (by kernel_rfl) (by kernel_rfl) (by kernel_rfl) (fun _ _ _ h => h) (Or.inl ⟨by rfl, ?_⟩) hHeld ?_
                            rotate_left
                            · intro wS hSw; obtain hS0 := hSw; go_simp; try with_reducible rfl
                            try go_simp
                            refine wpAnyH_done (by kernel_rfl) ?_ _
                            go_wp2
                            go_meet
                            case rel => exact ⟨w6.heap.size, g, rfl, by omega, hq4, hHeld, holdsT_small HTT.out HZ0.out rfl (small_q rfl rfl rfl) hg4⟩
                        case rest =>
                          obtain ⟨kb, g, rfl, hkb, hqn, hbn, hT⟩ := hcut
                          obtain ⟨V, rfl⟩ : ∃ V, V = wc := ⟨_, rfl⟩
                          have hbV : Below wr.heap.size wr V := below_on HB6.out hbn
                          have HBV := Lib.hid hbV
                          have HTT := Lib.hid hT
                          have HQN := Lib.hid hqn
                          have HQ2 := Lib.hid (HQ6.out.below hbn)
                          have HPV := Lib.hid (rangeAt_below HP6.out hbn)
                          have zv := hbV.size
                          have z6 := HB6.out.size
                          have zq2 := HQ2.out.lt
                          have zk := hqn.lt
                          have zw := HST.out.below.size
                          have HOC := Lib.hid (own_below8 HST.out.c hbV)
                          have zo : ∀ b, vc.ownBlock = some b → b < wr.heap.size ∧ W.heap.size + 1 ≤ b := fun b e => ⟨(HST.out.c.lt b e).2, (HST.out.c.lt b e).1⟩
                          clear hbn hT hqn hbV HB6 HQ6 HP6 HH6 HTB6
                          go_wp2_with (first | (refine wpList_load_mid rfl 35 (.tmp 181) rfl sb (so + k * 10 + 2) (by first | rfl | exact congrArg (fun x => Value.pointer (some x)) (Addr.add_mid _ _ _)) (pktList p) _ HPV.out Tryd.underlying35 rfl (by kernel_rfl) ?_) | (refine wpList_build_pkt rfl (.tmp 182) rfl p rfl ?_) | (refine wpList_add_pkt_at rfl (.tmp 177) (.tmp 183) rfl rfl (own_below8 HOC.out (below_new (Below.refl _ _) _)) (by simp; omega) _ 0 p rfl (by exact (Blk.new _ (pktList p).toArray 35).range) (by omega) ?_; intro vc' V5 hown5 hgr5 hat5; have HO5 := Lib.hid hown5; have HG5 := Lib.hid hgr5; have HA5 := Lib.hid hat5; have HQ5 : RowKit.Hid (Blk V5 kb (qList A B C room (some ⟨g, 0, none⟩) 1 1 vn now' (s1 : Int))) := Lib.hid ((HQN.out.below (below_new (Below.refl _ _) _)).kept hgr5 (fun e => by have := zo _ e.symm; omega)); have HK5 : RowKit.Hid (Blk V5 W.heap.size (qList A B C room (some ad) 1 lc v0 v7 (s : Int))) := Lib.hid ((HQ2.out.below (below_new (Below.refl _ _) _)).kept hgr5 (fun e => by have := zo _ e.symm; omega)); clear hown5 hgr5 hat5) | (refine wpList_load_mid rfl 28 (.tmp 19) rfl kb 0 rfl (qList A B C room (some ⟨g, 0, none⟩) 1 1 vn now' (s1 : Int)) _ HQ5.out.range Tryd.underlying28 rfl (by kernel_rfl) ?_) | (refine wpList_store_blk rfl 28 (.tmp 2) (.tmp 185) rfl W.heap.size (qList A B C room (some ad) 1 lc v0 v7 (s : Int)) (qList A B C room (some ⟨g, 0, none⟩) 1 1 vn now' (s1 : Int)) rfl rfl HK5.out (by kernel_rfl) rfl (qList_one _ _ _ _ _ _ _ _ _ _) ?_; intro V6 hq6 hg6))
                          go_meet
                          case rel =>
                            have h1 := fun o1 => HST.out.below' (below_on HBV.out (below_new (Below.refl V.heap.size V) o1))
                            have h2 := (h1 _).came HG5.out HO5.out HA5.out
                            have h3 := holdsT_grow (HTT.out.below (below_new (Below.refl _ _) _)) (h1 _).c HST.out.cn HG5.out
                            exact ⟨_, _, rfl, rfl, xs', came ++ [p], went, h2.store h3 HOK'.out hg6 hq6, by rw [← HXS.out]; exact HKIN'.out, by rw [List.length_append, List.length_singleton]; omega⟩
                      · as_aux_lemma =>
                        have HRES : RowKit.Hid (Ea.fated what p.able p.marked = 0) := Lib.hid (by omega)
                        obtain ⟨pa, hpa⟩ : ∃ b, p.able = b := ⟨_, rfl⟩
                        have HAB := Lib.hid hpa
                        clear h1 hkin' hab hlt2 hge2 h3 hpa
                        go_wp2
                        refine wp_region_still_tail 7 (by kernel_rfl) (by kernel_rfl) ?_
                        simp only [List.take_succ_cons, List.take_zero, List.drop_succ_cons, List.drop_zero]
                        change wpStill _ _ (World.drew _) _ _ _
                        repeat (first | (refine wpStill_load_mid (by rfl) 28 _ rfl W.heap.size 0 rfl (qList A B C room (some ad) 1 lc v0 v7 (s : Int)) _ (by exact HQ.out.range) Tryd.underlying28 rfl (by kernel_rfl) ?_) | (refine wpStill_load_mid (by rfl) 35 _ rfl sb (so + k * 10 + 2) (by first | rfl | exact congrArg (fun x => Value.pointer (some x)) (Addr.add_mid _ _ _)) (pktList p) _ (by exact HPR.out) Tryd.underlying35 rfl (by kernel_rfl) ?_) | still_step)
                        refine wpStill_nil ?_
                        change wpList _ _ _ _ _ (World.drew _)
                        obtain ⟨wd, hwd⟩ : ∃ x, World.drew wr = x := ⟨_, rfl⟩
                        rw [hwd]
                        have hbd : Below wr.heap.size wr wd := hwd ▸ below_drawn (Below.refl _ _)
                        clear hwd
                        go_wp2_with fail
                        refine (fate_at A B C room ad lc v0 v7 s xs wd (HoldsL.below ⟨a, c, hc, hr⟩ hbd) HOK.out (table_below HT.out (below_on HST.out.below hbd)) p HPO.out now' (by omega) (by omega) what s1 HV.out 0 HRES.out).mono ?_
                        rintro e w5 ⟨rfl, hb5⟩
                        have hb5' : Below wr.heap.size wr w5 := below_on hbd hb5
                        have hq5 := HQ.out.below hb5'
                        have q5 := hq5.cell 5 rfl
                        have q4 := hq5.cell 4 rfl
                        have zq := hq5.lt
                        have hc5 := below_cell_of hb5' hc
                        rw [hm] at hc5
                        have hp5 := rangeAt_below HPR.out hb5'
                        have y6 := hp5 6 _ rfl
                        rw [HAB.out] at y6
                        have HB5 := Lib.hid hb5'
                        have HQ5 := Lib.hid hq5
                        have HP5 := Lib.hid hp5
                        have hh5 : HoldsL w5 ad xs := HoldsL.below ⟨a, c, hc, hr⟩ hb5'
                        have HH5 := Lib.hid hh5
                        have zc := World.block_lt_of_cell? _ _ hc5
                        clear hb5 hb5' hbd hq5 hp5 hc hr hh5
                        go_wp2
                        go_quiet (fail)
                        go_upto_region 27 with fail
                        obtain ⟨w6, hw6⟩ : ∃ x, w5.drewN nq = x := ⟨_, rfl⟩
                        rw [hw6]
                        have hb6 : Below w5.heap.size w5 w6 := hw6 ▸ below_drawnN (Below.refl _ _) _
                        have HB6 := Lib.hid (below_on HB5.out hb6)
                        have HQ6 := Lib.hid (HQ5.out.below hb6)
                        have HP6 := Lib.hid (rangeAt_below HP5.out hb6)
                        have HH6 := Lib.hid (HH5.out.below hb6)
                        clear hw6 hb6 HB5 HQ5 HP5 HH5 q5 q4 zq hc5 y6 zc
                        obtain ⟨vn, hvn⟩ : ∃ z, Ea.avg v0 xs.length (2 ^ C.toNat) = z := ⟨_, rfl⟩
                        obtain ⟨xs', hxs⟩ : ∃ z, Ea.stays xs p now' what = z := ⟨_, rfl⟩
                        have hok' := HOK.out.put (now := now') (by omega) (by omega) HPO.out s
                        rw [HV.out] at hok'
                        simp only at hok'
                        rw [hvn, hxs] at hok'
                        have HOK' := Lib.hid hok'
                        have HXS := Lib.hid hxs
                        have HVN := Lib.hid hvn
                        have HTB6 := Lib.hid (table_below HT.out (below_on HST.out.below HB6.out))
                        clear hvn hxs hok'
                        go_cut [19] from 59 to 189 (fun u wx => ∃ kb g : Nat, u = .pointer (some ⟨kb, 0, none⟩) ∧ w6.heap.size ≤ kb ∧ Blk wx kb (qList A B C room (some ⟨g, 0, none⟩) 1 1 vn now' (s1 : Int)) ∧ Below w6.heap.size w6 wx ∧ HoldsT wx ⟨g, 0, none⟩ xs')
                        case first =>
                          refine wp_region_held_drew (S := (fun V => Below w6.heap.size w6 V)) (by kernel_rfl) ?_ (fun hHeld => ?_)
                          · exact below_drawn (Below.refl _ _)
                          refine wpAnyH_take (i := 0) (v := (.agg (qList A B C room (some ad) 1 lc v0 v7 (s : Int)).toArray)) rfl (by kernel_rfl) (by kernel_rfl) (by kernel_rfl) (fun _ _ _ h => h) (yieldsIf_load_mid (by rfl) 28 _ rfl W.heap.size 0 (by first | rfl | exact congrArg (fun x => Value.pointer (some x)) (Addr.add_mid _ _ _)) (qList A B C room (some ad) 1 lc v0 v7 (s : Int)) _ (fun _ h => (Blk.below HQ6.out h).range) Tryd.underlying28 rfl (by kernel_rfl)) hHeld ?_
                          try go_simp
                          refine wpAnyH_take (i := 1) (v := ?_) rfl (by kernel_rfl) (by kernel_rfl) (by kernel_rfl) (fun _ _ _ h => h) (Or.inl ⟨by rfl, ?_⟩) hHeld ?_
                          rotate_left
                          · intro wS hSw; obtain hS0 := hSw; go_simp; try with_reducible rfl
                          try go_simp
                          refine wpAnyH_take (i := 2) (v := ?_) rfl (by kernel_rfl) (by kernel_rfl) (by kernel_rfl) (fun _ _ _ h => h) (Or.inl ⟨by rfl, ?_⟩) hHeld ?_
                          rotate_left
                          · intro wS hSw; obtain hS0 := hSw; go_simp; try with_reducible rfl
                          try go_simp
                          refine wpAnyH_take (i := 3) (v := ?_) rfl (by kernel_rfl) (by kernel_rfl) (by kernel_rfl) (fun _ _ _ h => h) (Or.inl ⟨by rfl, ?_⟩) hHeld ?_
                          rotate_left
                          · intro wS hSw; obtain hS0 := hSw; go_simp; try with_reducible rfl
                          try go_simp
                          refine wpAnyH_take (i := 4) (v := ?_) rfl (by kernel_rfl) (by kernel_rfl) (by kernel_rfl) (fun _ _ _ h => h) (Or.inl ⟨by rfl, ?_⟩) hHeld ?_
                          rotate_left
                          · intro wS hSw; obtain hS0 := hSw; go_simp; try with_reducible rfl
                          try go_simp
                          refine wpAnyH_take (i := 5) (v := (.agg (pktList p).toArray)) rfl (by kernel_rfl) (by kernel_rfl) (by kernel_rfl) (fun _ _ _ h => h) (yieldsIf_load_mid (by rfl) 35 _ rfl sb (so + k * 10 + 2) (by first | rfl | exact congrArg (fun x => Value.pointer (some x)) (Addr.add_mid _ _ _)) (pktList p) _ (fun _ h => (rangeAt_below HP6.out h)) Tryd.underlying35 rfl (by kernel_rfl)) hHeld ?_
                          try go_simp
                          refine wpAnyH_take (i := 6) (v := ?_) rfl (by kernel_rfl) (by kernel_rfl) (by kernel_rfl) (fun _ _ _ h => h) (Or.inl ⟨by rfl, ?_⟩) hHeld ?_
                          rotate_left
                          · intro wS hSw; obtain hS0 := hSw; go_simp; try with_reducible rfl
                          try go_simp
                          refine wpAnyH_ready (rs := [7, 12]) (by kernel_rfl) (by simp) ?_
                          refine AllReadyH.cons rfl (fun K hK => ?_) (AllReadyH.cons rfl (fun K hK => ?_) AllReadyH.nil)
                          · go_simp
                            refine (put_t A B C room ad lc v0 v7 s xs _ (HH6.out.below hHeld) HOK.out (table_below HTB6.out hHeld) p HPO.out now' (by omega) (by omega) what s1 HV.out _ _ HVN.out HXS.out).mono ?_
                            rintro e V ⟨g, out, rfl, hb, hT⟩
                            have HTT := Lib.hid hT
                            have zv := (below_on hHeld hb).size
                            clear hT
                            refine hK.out _ _ ?_ ?_
                            · exact below_on hHeld hb
                            clear hK K hHeld hb
                            intro hHeld
                            try go_simp
                            refine wpAnyH_take (i := 8) (v := ?_) rfl (by kernel_rfl) (by kernel_rfl) (by kernel_rfl) (fun _ _ _ h => h) (Or.inl ⟨by rfl, ?_⟩) hHeld ?_
                            rotate_left
                            · intro wS hSw; obtain hS0 := hSw; go_simp; try with_reducible rfl
                            try go_simp
                            refine wpAnyH_take (i := 9) (v := ?_) rfl (by kernel_rfl) (by kernel_rfl) (by kernel_rfl) (fun _ _ _ h => h) (Or.inl ⟨by rfl, ?_⟩) hHeld ?_
                            rotate_left
                            · intro wS hSw; obtain hS0 := hSw; go_simp; try with_reducible rfl
                            try go_simp
                            refine wpAnyH_take (i := 10) (v := ?_) rfl (by kernel_rfl) (by kernel_rfl) (by kernel_rfl) (fun _ _ _ h => h) (Or.inl ⟨by rfl, ?_⟩) hHeld ?_
                            rotate_left
                            · intro wS hSw; obtain hS0 := hSw; go_simp; try with_reducible rfl
                            try go_simp
                            refine wpAnyH_take (i := 11) (v := ?_) rfl (by kernel_rfl) (by kernel_rfl) (by kernel_rfl) (fun _ _ _ h => h) (Or.inl ⟨by rfl, ?_⟩) hHeld ?_
                            rotate_left
                            · intro wS hSw; obtain hS0 := hSw; go_simp; try with_reducible rfl
                            try go_simp
                            refine wpAnyH_ready (rs := [12]) (by kernel_rfl) (by simp) ?_
                            refine AllReadyH.cons rfl (fun K hK => ?_) AllReadyH.nil
                            go_simp
                            have HZ0 := Lib.hid (Blk.new V zeroQ.toArray 28)
                            refine hK.out _ _ ?_ ?_
                            · exact below_new hHeld _
                            clear hK K hHeld
                            intro hHeld
                            try go_simp
                            refine wpAnyH_ready (rs := [13]) (by kernel_rfl) (by simp) ?_
                            refine AllReadyH.cons rfl (fun K hK => ?_) AllReadyH.nil
                            refine ready_store_blk (by rfl) _ 28 _ _ rfl V.heap.size zeroQ (qList A B C room (some ⟨g, 0, none⟩) 1 1 vn now' (s1 : Int)) rfl rfl HZ0.out (by kernel_rfl) rfl (qList_one _ _ _ _ _ _ _ _ _ _) ?_
                            intro V4 hq4 hg4
                            refine hK.out _ _ ?_ ?_
                            · exact below_grown hHeld hg4 (fun j hj => by injection hj with hj; subst hj; omega)
                            clear hK K hHeld
                            intro hHeld
                            try go_simp
                            refine wpAnyH_take (i := 14) (v := ?_) rfl (by kernel_rfl) (by kernel_rfl) (by kernel_rfl) (fun _ _ _ h => h) (Or.inl ⟨by rfl, ?_⟩) hHeld ?_
                            rotate_left
                            · intro wS hSw; obtain hS0 := hSw; go_simp; try with_reducible rfl
                            try go_simp
                            refine wpAnyH_take (i := 15) (v := ?_) rfl (by kernel_rfl) (by kernel_rfl) (by kernel_rfl) (fun _ _ _ h => h) (Or.inl ⟨by rfl, ?_⟩) hHeld ?_
                            rotate_left
                            · intro wS hSw; obtain hS0 := hSw; go_simp; try with_reducible rfl
                            try go_simp
                            refine wpAnyH_done (by kernel_rfl) ?_ _
                            go_wp2
                            go_meet
                            case rel => exact ⟨V.heap.size, g, rfl, by omega, hq4, hHeld, holdsT_small (HTT.out.below (below_new (Below.refl _ _) _)) HZ0.out rfl (small_q rfl rfl rfl) hg4⟩
                          · go_simp
                            have HZ0 := Lib.hid (Blk.new w6.drew zeroQ.toArray 28)
                            refine hK.out _ _ ?_ ?_
                            · exact below_new hHeld _
                            clear hK K hHeld
                            intro hHeld
                            try go_simp
                            refine wpAnyH_ready (rs := [7]) (by kernel_rfl) (by simp) ?_
                            refine AllReadyH.cons rfl (fun K hK => ?_) AllReadyH.nil
                            go_simp
                            refine (put_t A B C room ad lc v0 v7 s xs _ (HH6.out.below hHeld) HOK.out (table_below HTB6.out hHeld) p HPO.out now' (by omega) (by omega) what s1 HV.out _ _ HVN.out HXS.out).mono ?_
                            rintro e V ⟨g, out, rfl, hb, hT⟩
                            have HTT := Lib.hid hT
                            have zv := (below_on hHeld hb).size
                            clear hT
                            have HZ0 := Lib.hid (HZ0.out.below hb)
                            refine hK.out _ _ ?_ ?_
                            · exact below_on hHeld hb
                            clear hK K hHeld hb
                            intro hHeld
                            try go_simp
                            refine wpAnyH_take (i := 8) (v := ?_) rfl (by kernel_rfl) (by kernel_rfl) (by kernel_rfl) (fun _ _ _ h => h) (Or.inl ⟨by rfl, ?_⟩) hHeld ?_
                            rotate_left
                            · intro wS hSw; obtain hS0 := hSw; go_simp; try with_reducible rfl
                            try go_simp
                            refine wpAnyH_take (i := 9) (v := ?_) rfl (by kernel_rfl) (by kernel_rfl) (by kernel_rfl) (fun _ _ _ h => h) (Or.inl ⟨by rfl, ?_⟩) hHeld ?_
                            rotate_left
                            · intro wS hSw; obtain hS0 := hSw; go_simp; try with_reducible rfl
                            try go_simp
                            refine wpAnyH_take (i := 10) (v := ?_) rfl (by kernel_rfl) (by kernel_rfl) (by kernel_rfl) (fun _ _ _ h => h) (Or.inl ⟨by rfl, ?_⟩) hHeld ?_
                            rotate_left
                            · intro wS hSw; obtain hS0 := hSw; go_simp; try with_reducible rfl
                            try go_simp
                            refine wpAnyH_take (i := 11) (v := ?_) rfl (by kernel_rfl) (by kernel_rfl) (by kernel_rfl) (fun _ _ _ h => h) (Or.inl ⟨by rfl, ?_⟩) hHeld ?_
                            rotate_left
                            · intro wS hSw; obtain hS0 := hSw; go_simp; try with_reducible rfl
                            try go_simp
                            refine wpAnyH_ready (rs := [13]) (by kernel_rfl) (by simp) ?_
                            refine AllReadyH.cons rfl (fun K hK => ?_) AllReadyH.nil
                            refine ready_store_blk (by rfl) _ 28 _ _ rfl w6.heap.size zeroQ (qList A B C room (some ⟨g, 0, none⟩) 1 1 vn now' (s1 : Int)) rfl rfl HZ0.out (by kernel_rfl) rfl (qList_one _ _ _ _ _ _ _ _ _ _) ?_
                            intro V4 hq4 hg4
                            refine hK.out _ _ ?_ ?_
                            · exact below_grown hHeld hg4 (fun j hj => by injection hj with hj; subst hj; omega)
                            clear hK K hHeld
                            intro hHeld
                            try go_simp
                            refine wpAnyH_take (i := 14) (v := ?_) rfl (by kernel_rfl) (by kernel_rfl) (by kernel_rfl) (fun _ _ _ h => h) (Or.inl ⟨by rfl, ?_⟩) hHeld ?_
                            rotate_left
                            · intro wS hSw; obtain hS0 := hSw; go_simp; try with_reducible rfl
                            try go_simp
                            refine wpAnyH_take (i := 15) (v := ?_) rfl (by kernel_rfl) (by kernel_rfl) (by kernel_rfl) (fun _ _ _ h => h) (Or.inl ⟨by rfl, ?_⟩) hHeld ?_
                            rotate_left
                            · intro wS hSw; obtain hS0 := hSw; go_simp; try with_reducible rfl
                            try go_simp
                            refine wpAnyH_done (by kernel_rfl) ?_ _
                            go_wp2
                            go_meet
                            case rel => exact ⟨w6.heap.size, g, rfl, by omega, hq4, hHeld, holdsT_small HTT.out HZ0.out rfl (small_q rfl rfl rfl) hg4⟩
                        case rest =>
                          obtain ⟨kb, g, rfl, hkb, hqn, hbn, hT⟩ := hcut
                          obtain ⟨V, rfl⟩ : ∃ V, V = wc := ⟨_, rfl⟩
                          have hbV : Below wr.heap.size wr V := below_on HB6.out hbn
                          have HBV := Lib.hid hbV
                          have HTT := Lib.hid hT
                          have HQN := Lib.hid hqn
                          have HQ2 := Lib.hid (HQ6.out.below hbn)
                          have HPV := Lib.hid (rangeAt_below HP6.out hbn)
                          have zv := hbV.size
                          have z6 := HB6.out.size
                          have zq2 := HQ2.out.lt
                          have zk := hqn.lt
                          have zw := HST.out.below.size
                          have HOC := Lib.hid (own_below8 HST.out.c hbV)
                          have zo : ∀ b, vc.ownBlock = some b → b < wr.heap.size ∧ W.heap.size + 1 ≤ b := fun b e => ⟨(HST.out.c.lt b e).2, (HST.out.c.lt b e).1⟩
                          clear hbn hT hqn hbV HB6 HQ6 HP6 HH6 HTB6
                          go_wp2_with (first | (refine wpList_load_mid rfl 35 (.tmp 181) rfl sb (so + k * 10 + 2) (by first | rfl | exact congrArg (fun x => Value.pointer (some x)) (Addr.add_mid _ _ _)) (pktList p) _ HPV.out Tryd.underlying35 rfl (by kernel_rfl) ?_) | (refine wpList_build_pkt rfl (.tmp 182) rfl p rfl ?_) | (refine wpList_add_pkt_at rfl (.tmp 177) (.tmp 183) rfl rfl (own_below8 HOC.out (below_new (Below.refl _ _) _)) (by simp; omega) _ 0 p rfl (by exact (Blk.new _ (pktList p).toArray 35).range) (by omega) ?_; intro vc' V5 hown5 hgr5 hat5; have HO5 := Lib.hid hown5; have HG5 := Lib.hid hgr5; have HA5 := Lib.hid hat5; have HQ5 : RowKit.Hid (Blk V5 kb (qList A B C room (some ⟨g, 0, none⟩) 1 1 vn now' (s1 : Int))) := Lib.hid ((HQN.out.below (below_new (Below.refl _ _) _)).kept hgr5 (fun e => by have := zo _ e.symm; omega)); have HK5 : RowKit.Hid (Blk V5 W.heap.size (qList A B C room (some ad) 1 lc v0 v7 (s : Int))) := Lib.hid ((HQ2.out.below (below_new (Below.refl _ _) _)).kept hgr5 (fun e => by have := zo _ e.symm; omega)); clear hown5 hgr5 hat5) | (refine wpList_load_mid rfl 28 (.tmp 19) rfl kb 0 rfl (qList A B C room (some ⟨g, 0, none⟩) 1 1 vn now' (s1 : Int)) _ HQ5.out.range Tryd.underlying28 rfl (by kernel_rfl) ?_) | (refine wpList_store_blk rfl 28 (.tmp 2) (.tmp 185) rfl W.heap.size (qList A B C room (some ad) 1 lc v0 v7 (s : Int)) (qList A B C room (some ⟨g, 0, none⟩) 1 1 vn now' (s1 : Int)) rfl rfl HK5.out (by kernel_rfl) rfl (qList_one _ _ _ _ _ _ _ _ _ _) ?_; intro V6 hq6 hg6))
                          go_meet
                          case rel =>
                            have h1 := fun o1 => HST.out.below' (below_on HBV.out (below_new (Below.refl V.heap.size V) o1))
                            have h2 := (h1 _).came HG5.out HO5.out HA5.out
                            have h3 := holdsT_grow (HTT.out.below (below_new (Below.refl _ _) _)) (h1 _).c HST.out.cn HG5.out
                            exact ⟨_, _, rfl, rfl, xs', came ++ [p], went, h2.store h3 HOK'.out hg6 hq6, by rw [← HXS.out]; exact HKIN'.out, by rw [List.length_append, List.length_singleton]; omega⟩
              case rest =>
                obtain ⟨vc, vw, rfl, rfl, xs', came', went', hst, hkin, hlc'⟩ := hcut
                have HS2 := Lib.hid hst
                have HKIN' := Lib.hid hkin
                obtain ⟨ad', lc', v0', v7', s', hq', hh', hok', -⟩ := hst.open
                have HQ' := Lib.hid hq'
                have HH' := Lib.hid hh'
                have HOK'' := Lib.hid hok'
                clear hst hkin hq' hh' hok'
                go_wp2_with (first | (refine wpList_load_mid rfl 28 (.tmp 2) rfl W.heap.size 0 rfl (qList A B C room (some ad') 1 lc' v0' v7' (s' : Int)) _ HQ'.out.range Tryd.underlying28 rfl (by kernel_rfl) ?_))
                obtain ⟨a', c', hc', hr'⟩ := HH'.out
                refine (rvalid_yes A B C room ad' lc' v0' v7' s' a' xs'.length c' xs' _ hc' hr' (by have := HOK''.out.len; have := HOK''.out.r1; omega) HOK''.out).mono ?_
                rintro e wv ⟨rfl, hbv⟩
                have HBV := Lib.hid hbv
                clear hbv
                go_wp2
                go_roundw
                case rel => exact ⟨_, _, rfl, rfl, k + 1, by omega, by go_num, now', by first | rfl | go_num, by omega, by omega, xs', came', went', HS2.out.below' HBV.out, HKIN'.out, by omega⟩
                case measure => simp [intOf]; omega
            · obtain rfl : k = n := by omega
              have hwl : went.length ≤ 700 := by have := HKIN.out.len; rw [List.length_append] at this; omega
              obtain ⟨w3, rfl⟩ : ∃ w3, w3 = wr := ⟨_, rfl⟩
              go_wp2
              go_loopw [8, 23] (fun u i wx => ∃ v : Value, v = u ∧ ∃ j : Nat, j ≤ xs.length ∧ i = .int .i64 j ∧ ESt W wx A B C room now vc v xs came (went ++ Ea.pks (xs.take j))) (fun _ i _ => xs.length - (intOf i).toNat)
              case atStart => exact ⟨_, rfl, 0, Nat.zero_le _, rfl, by simpa [Ea.pks] using HST.out⟩
              case round =>
                obtain ⟨v, rfl, j, hj, rfl, hst⟩ := hrel
                have HST := Lib.hid hst
                clear hst
                obtain ⟨ad, lc, v0, v7, s, hq, ⟨a, c, hc, hr⟩, hok, -⟩ := HST.out.open
                have q5 := hq.cell 5 rfl
                have hsh : xs.length ≤ 500 := by have := hok.len; have := hok.r1; omega
                have zq := hq.lt
                have zc := World.block_lt_of_cell? _ _ hc
                by_cases hlj : j < xs.length
                · as_aux_lemma =>
                  obtain ⟨b, o, rfl, hx⟩ := hr.2 j hlj
                  have hps := Ea.pks_snoc (l := xs) hlj
                  have hlen : (Ea.pks (xs.take j)).length ≤ 500 := by rw [Ea.pks_len, List.length_take]; omega
                  obtain ⟨x, hxx⟩ : ∃ x, xs.getD j default = x := ⟨_, rfl⟩
                  rw [hxx] at hx hps
                  have HPS := Lib.hid hps
                  have HR := Lib.hid (item_range hx)
                  clear hxx hps hx
                  have zw := HST.out.below.size
                  obtain ⟨m, hm⟩ : ∃ m, xs.length = m := ⟨_, rfl⟩
                  rw [hm] at hc
                  have dj : decide ((j : Int) < (m : Int)) = true := decide_eq_true (by omega)
                  go_wp2_with (first | (refine wpList_load_mid rfl 35 (.tmp 206) rfl b (o + j * 9) (by first | rfl | exact congrArg (fun x => Value.pointer (some x)) (Addr.add_mid _ _ _)) (pktList x.p) _ HR.out Tryd.underlying35 rfl (by kernel_rfl) ?_) | (refine wpList_build_pkt rfl (.tmp 207) rfl x.p rfl ?_) | (refine wpList_add_pkt_at rfl (.tmp 199) (.tmp 208) rfl rfl (own_below8 HST.out.t (below_new (Below.refl _ _) _)) (by simp; omega) _ 0 x.p rfl (by exact (Blk.new _ (pktList x.p).toArray 35).range) (by rw [List.length_append]; omega) ?_; intro v' V5 hown5 hgr5 hat5))
                  go_roundw
                  case rel => exact ⟨_, rfl, j + 1, by omega, by go_num, by rw [HPS.out, ← List.append_assoc]; exact (HST.out.below' (below_new (Below.refl _ _) _)).went hgr5 hown5 hat5⟩
                  case measure => simp [intOf]; omega
                · obtain rfl : j = xs.length := by omega
                  rw [List.take_length] at HST
                  obtain ⟨m, hm⟩ : ∃ m, xs.length = m := ⟨_, rfl⟩
                  rw [hm] at hc ⊢
                  obtain ⟨L, hL⟩ : ∃ L, went ++ Ea.pks xs = L := ⟨_, rfl⟩
                  have hkl := HKIN.out
                  rw [hL] at HST hkl
                  have HKL := Lib.hid hkl
                  obtain ⟨M, hM⟩ : ∃ M, came.length = M := ⟨_, rfl⟩
                  have hLM : L.length = M := by rw [← hM, hkl.len]
                  have HO1 := Lib.hid HST.out.c
                  have HO2 := Lib.hid HST.out.t
                  have HBW := Lib.hid HST.out.below
                  have HCT := Lib.hid HST.out.ct
                  obtain ⟨ac, cc, hvc⟩ := OwnP.slice HO1.out
                  obtain ⟨aw, cw, hvw⟩ := OwnP.slice HO2.out
                  rw [hM] at hvc
                  rw [hLM] at hvw
                  subst hvc hvw
                  have HM := Lib.hid hM
                  have HLM := Lib.hid hLM
                  clear HST HKIN hkl hr hok hL hM hLM hm
                  have dlj : decide (((m : Nat) : Int) < (m : Int)) = false := decide_eq_false (by omega)
                  go_wp2
                  go_loopw [5, 24] (fun u i wx => u = .bool true ∧ ∃ j : Nat, j ≤ M ∧ i = .int .i64 j ∧ Below W.heap.size W wx ∧ OwnP wx (W.heap.size + 1) (.slice ac M cc) came ∧ ∃ N : List Ea.Pkt, N.length = M ∧ OwnP wx (W.heap.size + 1) (.slice aw M cw) N ∧ ∀ t, j ≤ t → t < M → N.getD t default = L.getD t default) (fun _ i _ => M - (intOf i).toNat)
                  case atStart => exact ⟨rfl, 0, Nat.zero_le _, rfl, HBW.out, HO1.out, L, HLM.out, HO2.out, fun _ _ _ => rfl⟩
                  case round =>
                    obtain ⟨rfl, j, hj, rfl, hB, hO1, N, hN, hO2, hsame⟩ := hrel
                    have HB := Lib.hid hB
                    have HOA := Lib.hid hO1
                    have HOB := Lib.hid hO2
                    have HN := Lib.hid hN
                    have HSM := Lib.hid hsame
                    clear hB hO1 hO2 hN hsame HO1 HO2
                    by_cases hlj : j < M
                    · obtain ⟨g1, k1, e1, hlo1, hhi1, hr1⟩ := OwnP.at HOA.out j (by rw [HM.out]; exact hlj)
                      obtain ⟨g2, k2, e2, hlo2, hhi2, hr2⟩ := OwnP.at HOB.out j (by rw [HN.out]; exact hlj)
                      injection e1 with e1 _ _
                      injection e2 with e2 _ _
                      subst e1 e2
                      have hg12 : g1 ≠ g2 := fun e => HCT.out g1 rfl (by rw [e]; rfl)
                      have hfz : wr.frozen? ⟨g2, j * 8 + 7, none⟩ = false := by
                        rcases HOB.out.2 with ⟨hv, _⟩ | ⟨g', cap, cur, hv, _, hg, _⟩
                        · cases hv
                        · injection hv with hv
                          injection hv with hv
                          injection hv with hv
                          subst hv
                          simp [World.frozen?, hg]
                      have hal := HKL.out.all j (by rw [HM.out]; exact hlj)
                      rw [HSM.out j (Nat.le_refl _) hlj] at hr2
                      obtain ⟨x, hxx⟩ : ∃ x, came.getD j default = x := ⟨_, rfl⟩
                      obtain ⟨y, hyy⟩ : ∃ y, L.getD j default = y := ⟨_, rfl⟩
                      rw [hxx] at hr1 hal
                      rw [hyy] at hr2 hal
                      have HX := Lib.hid hxx
                      have HY := Lib.hid hyy
                      clear hxx hyy
                      by_cases hsel : x.able = true ∧ x.marked = false
                      · obtain ⟨xa, xm⟩ := hsel
                        as_aux_lemma =>
                          have hyx : { y with marked := false } = x := by
                            rcases hal with h | ⟨_, _, h⟩
                            · subst h
                              obtain ⟨f0, f1, f2, f3, f4, f5, fa, fm⟩ := y
                              simp only at xm
                              subst xm
                              rfl
                            · subst h
                              obtain ⟨f0, f1, f2, f3, f4, f5, fa, fm⟩ := x
                              simp only at xm
                              subst xm
                              rfl
                          have x6 : wr.cell? ⟨g1, j * 8 + 6, none⟩ = some (.bool true) := by have := hr1 6 _ rfl; rw [xa] at this; exact this
                          have x7 : wr.cell? ⟨g1, j * 8 + 7, none⟩ = some (.bool false) := by have := hr1 7 _ rfl; rw [xm] at this; exact this
                          have z7 : wr.cell? ⟨g2, j * 8 + 7, none⟩ = some (.bool y.marked) := hr2 7 _ rfl
                          have hr1' : (wr.setCell ⟨g2, j * 8 + 7, none⟩ (.bool false)).rangeAt g1 (j * 8) (pktList x) := rangeAt_kept hr1 (grown_set wr ⟨g2, j * 8 + 7, none⟩ (.bool false)) (fun e => by injection e with e; exact hg12 e)
                          have hO2' := OwnP.mark (by have := HOB.out; rw [← HN.out] at this; exact this) (i := j) (by rw [HN.out]; exact hlj) false
                          rw [HSM.out j (Nat.le_refl _) hlj, HY.out, hyx] at hO2'
                          have hr2' : (wr.setCell ⟨g2, j * 8 + 7, none⟩ (.bool false)).rangeAt g2 (j * 8) (pktList x) := by
                            obtain ⟨g', k', e', _, _, hrr⟩ := OwnP.at hO2' j (by rw [List.length_set, HN.out]; exact hlj)
                            injection e' with e' _ _
                            injection e' with e'
                            injection e' with e'
                            subst e'
                            rw [List.getD_eq_getElem?_getD, List.getElem?_set_self (by rw [HN.out]; exact hlj)] at hrr
                            exact hrr
                          have hO1' : OwnP (wr.setCell ⟨g2, j * 8 + 7, none⟩ (.bool false)) (W.heap.size + 1) (.slice (some ⟨g1, 0, none⟩) M cc) came := ownsRow_setCell_other HOA.out (by simp only [Value.ownBlock]; intro e; injection e with e; exact hg12 e) _
                          have hB' : Below W.heap.size W (wr.setCell ⟨g2, j * 8 + 7, none⟩ (.bool false)) := below_set HB.out (by simp only; omega) _
                          have HO1' := Lib.hid hO1'
                          have HO2' := Lib.hid hO2'
                          have HR1 := Lib.hid hr1'
                          have HR2 := Lib.hid hr2'
                          have HB' := Lib.hid hB'
                          clear hr1 hr2 hr1' hr2' hO1' hO2' hB' hal hyx xa xm
                          go_wp2
                          obtain ⟨V, hV⟩ : ∃ V, wr.setCell ⟨g2, j * 8 + 7, none⟩ (.bool false) = V := ⟨_, rfl⟩
                          rw [hV] at HO1' HO2' HR1 HR2 HB' ⊢
                          have hr1 := HR1.out
                          have hr2 := HR2.out
                          clear x6 x7 z7 hV hfz HR1 HR2
                          have x0 : V.cell? ⟨g1, j * 8, none⟩ = some (.int .i64 x.flow) := hr1 0 _ rfl
                          have x1 := hr1 1 _ rfl
                          have x2 := hr1 2 _ rfl
                          have x3 := hr1 3 _ rfl
                          have x4 := hr1 4 _ rfl
                          have x5 := hr1 5 _ rfl
                          have x6 := hr1 6 _ rfl
                          have x7 := hr1 7 _ rfl
                          have y0 : V.cell? ⟨g2, j * 8, none⟩ = some (.int .i64 x.flow) := hr2 0 _ rfl
                          have y1 := hr2 1 _ rfl
                          have y2 := hr2 2 _ rfl
                          have y3 := hr2 3 _ rfl
                          have y4 := hr2 4 _ rfl
                          have y5 := hr2 5 _ rfl
                          have y6 := hr2 6 _ rfl
                          have y7 := hr2 7 _ rfl
                          clear hr1 hr2
                          go_quiet (fail)
                          go_wp2
                          go_roundw
                          case rel =>
                            refine ⟨by first | rfl | (simp; done), j + 1, by omega, by go_num, below_drawnN HB'.out _, HO1'.out, N.set j x, by rw [List.length_set]; exact HN.out, ?_, fun t h1 h2 => ?_⟩
                            · have h := HO2'.out
                              rw [HN.out] at h
                              exact h
                            · rw [List.getD_eq_getElem?_getD, List.getElem?_set_ne (by omega), ← List.getD_eq_getElem?_getD]
                              exact HSM.out t (by omega) h2
                          case measure => simp [intOf]; omega
                      · have hyx : y = x := by
                          rcases hal with h | ⟨h1, h2, _⟩
                          · exact h
                          · exact absurd ⟨h1, h2⟩ hsel
                        subst hyx
                        cases hxm : y.marked with
                        | true =>
                          as_aux_lemma =>
                            have HXM := Lib.hid hxm
                            clear hxm hsel hal hfz
                            have x0 : wr.cell? ⟨g1, j * 8, none⟩ = some (.int .i64 y.flow) := hr1 0 _ rfl
                            have x1 := hr1 1 _ rfl
                            have x2 := hr1 2 _ rfl
                            have x3 := hr1 3 _ rfl
                            have x4 := hr1 4 _ rfl
                            have x5 := hr1 5 _ rfl
                            have x6 := hr1 6 _ rfl
                            have x7 := hr1 7 _ rfl
                            have y0 : wr.cell? ⟨g2, j * 8, none⟩ = some (.int .i64 y.flow) := hr2 0 _ rfl
                            have y1 := hr2 1 _ rfl
                            have y2 := hr2 2 _ rfl
                            have y3 := hr2 3 _ rfl
                            have y4 := hr2 4 _ rfl
                            have y5 := hr2 5 _ rfl
                            have y6 := hr2 6 _ rfl
                            have y7 := hr2 7 _ rfl
                            clear hr1 hr2
                            rw [HXM.out] at x7 y7
                            go_wp2
                            go_quiet (fail)
                            go_wp2
                            go_roundw
                            case rel => exact ⟨by first | rfl | (simp; done), j + 1, by omega, by go_num, below_drawnN HB.out _, HOA.out, N, HN.out, HOB.out, fun t h1 h2 => HSM.out t (by omega) h2⟩
                            case measure => simp [intOf]; omega
                        | false =>
                          as_aux_lemma =>
                            have HXA : RowKit.Hid (y.able = false) := Lib.hid (by
                              cases h : y.able with
                              | false => rfl
                              | true => exact absurd ⟨h, hxm⟩ hsel)
                            have HXM := Lib.hid hxm
                            clear hxm hsel hal hfz
                            have x0 : wr.cell? ⟨g1, j * 8, none⟩ = some (.int .i64 y.flow) := hr1 0 _ rfl
                            have x1 := hr1 1 _ rfl
                            have x2 := hr1 2 _ rfl
                            have x3 := hr1 3 _ rfl
                            have x4 := hr1 4 _ rfl
                            have x5 := hr1 5 _ rfl
                            have x6 := hr1 6 _ rfl
                            have x7 := hr1 7 _ rfl
                            have y0 : wr.cell? ⟨g2, j * 8, none⟩ = some (.int .i64 y.flow) := hr2 0 _ rfl
                            have y1 := hr2 1 _ rfl
                            have y2 := hr2 2 _ rfl
                            have y3 := hr2 3 _ rfl
                            have y4 := hr2 4 _ rfl
                            have y5 := hr2 5 _ rfl
                            have y6 := hr2 6 _ rfl
                            have y7 := hr2 7 _ rfl
                            clear hr1 hr2
                            rw [HXM.out] at x7 y7
                            rw [HXA.out] at x6 y6
                            go_wp2
                            go_quiet (fail)
                            go_wp2
                            go_roundw
                            case rel => exact ⟨by first | rfl | (simp; done), j + 1, by omega, by go_num, below_drawnN HB.out _, HOA.out, N, HN.out, HOB.out, fun t h1 h2 => HSM.out t (by omega) h2⟩
                            case measure => simp [intOf]; omega
                    · obtain rfl : j = M := by omega
                      go_wp2
                      go_ret
                      exact ⟨rfl, HB.out⟩
end Go.Proofs.YtfeemiamjmmolaaDoor
