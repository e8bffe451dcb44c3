/- The reference of package dual: refused, With, calls that are refused. -/
import Derived.Test.YtdecclklenaoaaaDoorDuBad
import Derived.Test.YtdecclklenaoaaaDoorRandRef
namespace Go.Proofs.YtdecclklenaoaaaDoor
open Go.RowKit

theorem gq_one (kind A B C room : Int) (la : Option Addr) (ln lc : Nat) (v0 v1 v2 v3 v4 v5 v6 v7 : Int) (s : Nat) : ∀ v, v ∈ ([.int .i64 kind, .int .i64 A, .int .i64 B, .int .i64 C, .int .i64 room, .slice la ln lc, .int .i64 v0, .int .i64 v1, .int .i64 v2, .int .i64 v3, .int .i64 v4, .int .i64 v5, .int .i64 v6, .int .i64 v7, .int .u64 (s : Int)] : List Value) → v.oneCell' = true := by
  intro v h
  simp only [List.mem_cons, List.not_mem_nil, or_false] at h
  rcases h with rfl | rfl | rfl | rfl | rfl | rfl | rfl | rfl | rfl | rfl | rfl | rfl | rfl | rfl | rfl <;> rfl
set_option maxRecDepth 100000 in
set_option maxHeartbeats 4000000 in
theorem with_any (kind A B C room : Int) (la : Option Addr) (ln lc : Nat) (v0 v1 v2 v3 v4 v5 v6 v7 : Int) (s : Nat) (la' : Option Addr) (ln' lc' : Nat) (now : Int) (w : World) :
    Calls Tryd.prog 33 #[.agg #[.int .i64 kind, .int .i64 A, .int .i64 B, .int .i64 C, .int .i64 room, .slice la ln lc, .int .i64 v0, .int .i64 v1, .int .i64 v2, .int .i64 v3, .int .i64 v4, .int .i64 v5, .int .i64 v6, .int .i64 v7, .int .u64 (s : Int)], .slice la' ln' lc', .int .i64 now] w fun e V => e = .returned (.agg #[.int .i64 kind, .int .i64 A, .int .i64 B, .int .i64 C, .int .i64 room, .slice la' ln' lc', .int .i64 v0, .int .i64 v1, .int .i64 v2, .int .i64 v3, .int .i64 v4, .int .i64 v5, .int .i64 v6, .int .i64 now, .int .u64 (s : Int)]) ∧ Below w.heap.size w V := by
  go_enter Tryd.func33, Tryd.ntmps33
  go_wp2
  refine bodyPost_ret (results_c Tryd.results33 rfl (run_loadVar_mid _ (w.heap.size + 1) 0 28 [.int .i64 kind, .int .i64 A, .int .i64 B, .int .i64 C, .int .i64 room, .slice la' ln' lc', .int .i64 v0, .int .i64 v1, .int .i64 v2, .int .i64 v3, .int .i64 v4, .int .i64 v5, .int .i64 v6, .int .i64 now, .int .u64 (s : Int)] _ (blk_new_at (w.alloc _) ([.int .i64 kind, .int .i64 A, .int .i64 B, .int .i64 C, .int .i64 room, .slice la' ln' lc', .int .i64 v0, .int .i64 v1, .int .i64 v2, .int .i64 v3, .int .i64 v4, .int .i64 v5, .int .i64 v6, .int .i64 now, .int .u64 (s : Int)] : List Value).toArray 28 (by simp)).range Tryd.underlying28 rfl (by kernel_rfl))) rfl ?_
  exact ⟨rfl, below_new (below_new (Below.refl _ _) _) _⟩
/-- Why a call is refused, or why not. -/
def Gate (ok : Prop) (v7 now code : Int) : Prop := (code = 1 ∧ ¬ (ok ∧ 0 ≤ now ∧ now ≤ 10000000)) ∨ (code = 18 ∧ ok ∧ 0 ≤ now ∧ now ≤ 10000000 ∧ now < v7) ∨ (code = 0 ∧ ok ∧ 0 ≤ now ∧ now ≤ 10000000 ∧ v7 ≤ now)
set_option maxRecDepth 100000 in
set_option maxHeartbeats 4000000 in
theorem rrefused_any (kind A B C room : Int) (la : Option Addr) (ln lc : Nat) (v0 v1 v2 v3 v4 v5 v6 v7 : Int) (s : Nat) (w : World) (hL : RdLs6 w la ln) (now code : Int) (hg : Gate (VOk2 w kind A B C room la ln v0 v1 v2 v3 v4 v5 v6 v7) v7 now code) :
    Calls Tryd.prog 32 #[.agg #[.int .i64 kind, .int .i64 A, .int .i64 B, .int .i64 C, .int .i64 room, .slice la ln lc, .int .i64 v0, .int .i64 v1, .int .i64 v2, .int .i64 v3, .int .i64 v4, .int .i64 v5, .int .i64 v6, .int .i64 v7, .int .u64 (s : Int)], .int .i64 now] w fun e V => e = .returned (.int .i64 code) ∧ Below w.heap.size w V := by
  have HL := Lib.hid hL
  have HG := Lib.hid hg
  clear hL hg
  go_enter Tryd.func32, Tryd.ntmps32
  have hb0 : Below w.heap.size w (w.alloc (.cells #[.int .i64 kind, .int .i64 A, .int .i64 B, .int .i64 C, .int .i64 room, .slice la ln lc, .int .i64 v0, .int .i64 v1, .int .i64 v2, .int .i64 v3, .int .i64 v4, .int .i64 v5, .int .i64 v6, .int .i64 v7, .int .u64 (s : Int)] 28)) := below_new (Below.refl w.heap.size w) _
  have hl1 := HL.out.below hb0
  have hq0 := Blk.new w #[.int .i64 kind, .int .i64 A, .int .i64 B, .int .i64 C, .int .i64 room, .slice la ln lc, .int .i64 v0, .int .i64 v1, .int .i64 v2, .int .i64 v3, .int .i64 v4, .int .i64 v5, .int .i64 v6, .int .i64 v7, .int .u64 (s : Int)] 28
  have k0 := hq0.cell 0 rfl
  have k1 := hq0.cell 1 rfl
  have k2 := hq0.cell 2 rfl
  have k3 := hq0.cell 3 rfl
  have k4 := hq0.cell 4 rfl
  have k5 := hq0.cell 5 rfl
  have k6 := hq0.cell 6 rfl
  have k7 := hq0.cell 7 rfl
  have k8 := hq0.cell 8 rfl
  have k9 := hq0.cell 9 rfl
  have k10 := hq0.cell 10 rfl
  have k11 := hq0.cell 11 rfl
  have k12 := hq0.cell 12 rfl
  have k13 := hq0.cell 13 rfl
  have k14 := hq0.cell 14 rfl
  go_wp2_with fail
  refine (rvalid_any kind A B C room la ln lc v0 v1 v2 v3 v4 v5 v6 v7 s _ hl1.1 hl1.2).mono ?_
  rintro e w1 ⟨⟨b1, rfl, hv⟩, hb1⟩
  have HB1 := Lib.hid (below_on (below_new (Below.refl w.heap.size w) _) hb1)
  have HQ1 := Lib.hid (hq0.below hb1)
  have HV := Lib.hid hv
  clear hb1 hv hb0 hl1 hq0 k0 k1 k2 k3 k4 k5 k6 k7 k8 k9 k10 k11 k12 k13 k14
  cases b1 with
  | false =>
    have hc : code = 1 := by
      rcases HG.out with h | h | h
      · exact h.1
      · exact absurd (HV.out.2 (VOk2.onto (below_new (Below.refl w.heap.size w) _) h.2.1)) (by simp)
      · exact absurd (HV.out.2 (VOk2.onto (below_new (Below.refl w.heap.size w) _) h.2.1)) (by simp)
    subst hc
    go_wp2
    go_ret
    exact ⟨rfl, HB1.out⟩
  | true =>
    have HV2 := Lib.hid (VOk2.back HL.out.1 (below_new (Below.refl w.heap.size w) _) (HV.out.1 rfl))
    obtain ⟨bt, hbt⟩ : ∃ b, decide (0 ≤ now ∧ now ≤ 10000000) = b := ⟨_, rfl⟩
    have HBT := Lib.hid hbt
    clear hbt
    go_wp2_with fail
    refine (time_any now _).mono ?_
    rw [HBT.out]
    rintro e w2 ⟨rfl, rfl⟩
    cases bt with
    | false =>
      have hc : code = 1 := by
        have ht := of_decide_eq_false HBT.out
        rcases HG.out with h | h | h
        · exact h.1
        · exact absurd ⟨h.2.2.1, h.2.2.2.1⟩ ht
        · exact absurd ⟨h.2.2.1, h.2.2.2.1⟩ ht
      subst hc
      go_wp2
      go_ret
      exact ⟨rfl, HB1.out⟩
    | true =>
      have k13 := HQ1.out.cell 13 rfl
      have hcs : (code = 18 ∧ now < v7) ∨ (code = 0 ∧ v7 ≤ now) := by
        have ht := of_decide_eq_true HBT.out
        rcases HG.out with h | h | h
        · exact absurd ⟨HV2.out, ht⟩ h.2
        · exact Or.inl ⟨h.1, h.2.2.2.2⟩
        · exact Or.inr ⟨h.1, h.2.2.2.2⟩
      rcases hcs with ⟨rfl, hlt⟩ | ⟨rfl, hle⟩
      · have dl : decide (now < v7) = true := decide_eq_true hlt
        go_wp2
        go_ret
        exact ⟨rfl, HB1.out⟩
      · have dl : decide (now < v7) = false := decide_eq_false (by omega)
        go_wp2
        go_ret
        exact ⟨rfl, HB1.out⟩
set_option maxRecDepth 100000 in
set_option maxHeartbeats 4000000 in
theorem rput_no (kind A B C room : Int) (la : Option Addr) (ln lc : Nat) (v0 v1 v2 v3 v4 v5 v6 v7 : Int) (s : Nat) (w : World) (hL : RdLs6 w la ln) (p : Ea.Pkt) (now code : Int) (hc : code ≠ 0) (hg : (code = 1 ∧ ¬ p.ok) ∨ (p.ok ∧ Gate (VOk2 w kind A B C room la ln v0 v1 v2 v3 v4 v5 v6 v7) v7 now code)) :
    Calls Tryd.prog 13 #[.agg #[.int .i64 kind, .int .i64 A, .int .i64 B, .int .i64 C, .int .i64 room, .slice la ln lc, .int .i64 v0, .int .i64 v1, .int .i64 v2, .int .i64 v3, .int .i64 v4, .int .i64 v5, .int .i64 v6, .int .i64 v7, .int .u64 (s : Int)], pktVal p, .int .i64 now] w fun e V => e = .returned (.tuple #[.agg zeroDQ.toArray, .slice none 0 0, .int .i64 code]) ∧ Below w.heap.size w V := by
  have HL := Lib.hid hL
  have HG := Lib.hid hg
  have hcb : (code != 0) = true := by simp [hc]
  clear hL hg
  obtain ⟨bp, hbp⟩ : ∃ b, decide p.ok = b := ⟨_, rfl⟩
  have HBP := Lib.hid hbp
  clear hbp
  go_enter Tryd.func13, Tryd.ntmps13
  have hbz := below_new (below_new (below_new (Below.refl w.heap.size w) (.cells #[.int .i64 kind, .int .i64 A, .int .i64 B, .int .i64 C, .int .i64 room, .slice la ln lc, .int .i64 v0, .int .i64 v1, .int .i64 v2, .int .i64 v3, .int .i64 v4, .int .i64 v5, .int .i64 v6, .int .i64 v7, .int .u64 (s : Int)] 28)) (.cells (pktList p).toArray 30)) (.cells zeroDQ.toArray 28)
  have hp0 : Blk (((w.alloc (.cells #[.int .i64 kind, .int .i64 A, .int .i64 B, .int .i64 C, .int .i64 room, .slice la ln lc, .int .i64 v0, .int .i64 v1, .int .i64 v2, .int .i64 v3, .int .i64 v4, .int .i64 v5, .int .i64 v6, .int .i64 v7, .int .u64 (s : Int)] 28)).alloc (.cells (pktList p).toArray 30)).alloc (.cells zeroDQ.toArray 28)) (w.heap.size + 1) (pktList p) := (blk_new_at (w.alloc (.cells #[.int .i64 kind, .int .i64 A, .int .i64 B, .int .i64 C, .int .i64 room, .slice la ln lc, .int .i64 v0, .int .i64 v1, .int .i64 v2, .int .i64 v3, .int .i64 v4, .int .i64 v5, .int .i64 v6, .int .i64 v7, .int .u64 (s : Int)] 28)) (pktList p).toArray 30 (by simp)).below (below_new (Below.refl _ _) _)
  go_wp2_with (refine wpList_load_mid rfl 30 _ rfl (w.heap.size + 1) 0 rfl (pktList p) _ hp0.range Tryd.underlying30 rfl (by kernel_rfl) ?_)
  refine (packet_any p _).mono ?_
  rw [HBP.out]
  rintro e w1 ⟨rfl, hb1⟩
  have HB1 := Lib.hid (below_on hbz hb1)
  have HQ1 := Lib.hid (((Blk.new w #[.int .i64 kind, .int .i64 A, .int .i64 B, .int .i64 C, .int .i64 room, .slice la ln lc, .int .i64 v0, .int .i64 v1, .int .i64 v2, .int .i64 v3, .int .i64 v4, .int .i64 v5, .int .i64 v6, .int .i64 v7, .int .u64 (s : Int)] 28).below (below_new (below_new (Below.refl _ _) (.cells (pktList p).toArray 30)) (.cells zeroDQ.toArray 28))).below hb1)
  have HZ1 := Lib.hid ((blk_new_at ((w.alloc (.cells #[.int .i64 kind, .int .i64 A, .int .i64 B, .int .i64 C, .int .i64 room, .slice la ln lc, .int .i64 v0, .int .i64 v1, .int .i64 v2, .int .i64 v3, .int .i64 v4, .int .i64 v5, .int .i64 v6, .int .i64 v7, .int .u64 (s : Int)] 28)).alloc (.cells (pktList p).toArray 30)) zeroDQ.toArray 28 (g := w.heap.size + 1 + 1) (by simp only [World.size_alloc])).below hb1)
  clear hb1 hbz hp0
  cases bp with
  | false =>
    have hc1 : code = 1 := by
      rcases HG.out with h | h
      · exact h.1
      · exact absurd h.1 (of_decide_eq_false HBP.out)
    subst hc1
    go_wp2_with (first | (refine wpList_store_blk rfl 28 _ _ rfl (w.heap.size + 1 + 1) zeroDQ zeroDQ rfl rfl HZ1.out (by kernel_rfl) rfl (by decide) ?_; intro V7 hq7 hg7))
    refine bodyPost_ret (results_c11 Tryd.results13 rfl (run_loadVar_mid _ (w.heap.size + 1 + 1) 0 28 zeroDQ _ hq7.range Tryd.underlying28 rfl (by kernel_rfl))) rfl ?_
    exact ⟨rfl, below_grown HB1.out hg7 (fun k hk => by injection hk with hk; omega)⟩
  | true =>
    have hg2 : Gate (VOk2 w1 kind A B C room la ln v0 v1 v2 v3 v4 v5 v6 v7) v7 now code := by
      rcases HG.out with h | ⟨_, h | h | h⟩
      · exact absurd (of_decide_eq_true HBP.out) h.2
      · exact Or.inl ⟨h.1, fun k => h.2 ⟨VOk2.back HL.out.1 HB1.out k.1, k.2⟩⟩
      · exact Or.inr (Or.inl ⟨h.1, VOk2.onto HB1.out h.2.1, h.2.2⟩)
      · exact Or.inr (Or.inr ⟨h.1, VOk2.onto HB1.out h.2.1, h.2.2⟩)
    have HG2 := Lib.hid hg2
    clear hg2
    go_wp2_with (refine wpList_load_mid rfl 28 _ rfl w.heap.size 0 rfl [.int .i64 kind, .int .i64 A, .int .i64 B, .int .i64 C, .int .i64 room, .slice la ln lc, .int .i64 v0, .int .i64 v1, .int .i64 v2, .int .i64 v3, .int .i64 v4, .int .i64 v5, .int .i64 v6, .int .i64 v7, .int .u64 (s : Int)] _ HQ1.out.range Tryd.underlying28 rfl (by kernel_rfl) ?_)
    refine (rrefused_any kind A B C room la ln lc v0 v1 v2 v3 v4 v5 v6 v7 s _ (HL.out.below HB1.out) now code HG2.out).mono ?_
    rintro e w2 ⟨rfl, hb2⟩
    have HB2 := Lib.hid (below_on HB1.out hb2)
    have HZ2 := Lib.hid (HZ1.out.below hb2)
    clear hb2
    go_wp2_with (first | (refine wpList_store_blk rfl 28 _ _ rfl (w.heap.size + 1 + 1) zeroDQ zeroDQ rfl rfl HZ2.out (by kernel_rfl) rfl (by decide) ?_; intro V7 hq7 hg7))
    refine bodyPost_ret (results_c11 Tryd.results13 rfl (run_loadVar_mid _ (w.heap.size + 1 + 1) 0 28 zeroDQ _ hq7.range Tryd.underlying28 rfl (by kernel_rfl))) rfl ?_
    exact ⟨rfl, below_grown HB2.out hg7 (fun k hk => by injection hk with hk; omega)⟩
set_option maxRecDepth 100000 in
set_option maxHeartbeats 4000000 in
theorem rtake_no (kind A B C room : Int) (la : Option Addr) (ln lc : Nat) (v0 v1 v2 v3 v4 v5 v6 v7 : Int) (s : Nat) (w : World) (hL : RdLs6 w la ln) (now code : Int) (hc : code ≠ 0) (hg : Gate (VOk2 w kind A B C room la ln v0 v1 v2 v3 v4 v5 v6 v7) v7 now code) :
    Calls Tryd.prog 15 #[.agg #[.int .i64 kind, .int .i64 A, .int .i64 B, .int .i64 C, .int .i64 room, .slice la ln lc, .int .i64 v0, .int .i64 v1, .int .i64 v2, .int .i64 v3, .int .i64 v4, .int .i64 v5, .int .i64 v6, .int .i64 v7, .int .u64 (s : Int)], .int .i64 now] w fun e V => e = .returned (.tuple #[.agg zeroDQ.toArray, pktVal default, .bool false, .slice none 0 0, .int .i64 code]) ∧ Below w.heap.size w V := by
  have HL := Lib.hid hL
  have HG := Lib.hid hg
  have hcb : (code != 0) = true := by simp [hc]
  clear hL hg
  go_enter Tryd.func15, Tryd.ntmps15
  have hbz := below_new (below_new (below_new (Below.refl w.heap.size w) (.cells #[.int .i64 kind, .int .i64 A, .int .i64 B, .int .i64 C, .int .i64 room, .slice la ln lc, .int .i64 v0, .int .i64 v1, .int .i64 v2, .int .i64 v3, .int .i64 v4, .int .i64 v5, .int .i64 v6, .int .i64 v7, .int .u64 (s : Int)] 28)) (.cells zeroDQ.toArray 28)) (.cells zeroP.toArray 30)
  have HB1 := Lib.hid hbz
  have HQ1 := Lib.hid ((Blk.new w #[.int .i64 kind, .int .i64 A, .int .i64 B, .int .i64 C, .int .i64 room, .slice la ln lc, .int .i64 v0, .int .i64 v1, .int .i64 v2, .int .i64 v3, .int .i64 v4, .int .i64 v5, .int .i64 v6, .int .i64 v7, .int .u64 (s : Int)] 28).below (below_new (below_new (Below.refl _ _) (.cells zeroDQ.toArray 28)) (.cells zeroP.toArray 30)))
  have HZ1 := Lib.hid ((blk_new_at (w.alloc (.cells #[.int .i64 kind, .int .i64 A, .int .i64 B, .int .i64 C, .int .i64 room, .slice la ln lc, .int .i64 v0, .int .i64 v1, .int .i64 v2, .int .i64 v3, .int .i64 v4, .int .i64 v5, .int .i64 v6, .int .i64 v7, .int .u64 (s : Int)] 28)) zeroDQ.toArray 28 (g := w.heap.size + 1) (by simp only [World.size_alloc])).below (below_new (Below.refl _ _) (.cells zeroP.toArray 30)))
  have HP1 := Lib.hid (blk_new_at ((w.alloc (.cells #[.int .i64 kind, .int .i64 A, .int .i64 B, .int .i64 C, .int .i64 room, .slice la ln lc, .int .i64 v0, .int .i64 v1, .int .i64 v2, .int .i64 v3, .int .i64 v4, .int .i64 v5, .int .i64 v6, .int .i64 v7, .int .u64 (s : Int)] 28)).alloc (.cells zeroDQ.toArray 28)) zeroP.toArray 30 (g := w.heap.size + 1 + 1) (by simp only [World.size_alloc]))
  clear hbz
  go_wp2_with (refine wpList_load_mid rfl 28 _ rfl w.heap.size 0 rfl [.int .i64 kind, .int .i64 A, .int .i64 B, .int .i64 C, .int .i64 room, .slice la ln lc, .int .i64 v0, .int .i64 v1, .int .i64 v2, .int .i64 v3, .int .i64 v4, .int .i64 v5, .int .i64 v6, .int .i64 v7, .int .u64 (s : Int)] _ HQ1.out.range Tryd.underlying28 rfl (by kernel_rfl) ?_)
  have hg2 : Gate (VOk2 (((w.alloc (.cells #[.int .i64 kind, .int .i64 A, .int .i64 B, .int .i64 C, .int .i64 room, .slice la ln lc, .int .i64 v0, .int .i64 v1, .int .i64 v2, .int .i64 v3, .int .i64 v4, .int .i64 v5, .int .i64 v6, .int .i64 v7, .int .u64 (s : Int)] 28)).alloc (.cells zeroDQ.toArray 28)).alloc (.cells zeroP.toArray 30)) kind A B C room la ln v0 v1 v2 v3 v4 v5 v6 v7) v7 now code := by
    rcases HG.out with h | h | h
    · exact Or.inl ⟨h.1, fun k => h.2 ⟨VOk2.back HL.out.1 HB1.out k.1, k.2⟩⟩
    · exact Or.inr (Or.inl ⟨h.1, VOk2.onto HB1.out h.2.1, h.2.2⟩)
    · exact Or.inr (Or.inr ⟨h.1, VOk2.onto HB1.out h.2.1, h.2.2⟩)
  refine (rrefused_any kind A B C room la ln lc v0 v1 v2 v3 v4 v5 v6 v7 s _ (HL.out.below HB1.out) now code hg2).mono ?_
  rintro e w2 ⟨rfl, hb2⟩
  have HB2 := Lib.hid (below_on HB1.out hb2)
  have HZ2 := Lib.hid (HZ1.out.below hb2)
  have HP2 := Lib.hid (HP1.out.below hb2)
  clear hb2
  go_wp2_with (first | (refine wpList_store_blk rfl 28 _ _ rfl (w.heap.size + 1) zeroDQ zeroDQ rfl rfl HZ2.out (by kernel_rfl) rfl (by decide) ?_; intro V7 hq7 hg7; have HP7 := Lib.hid (HP2.out.kept hg7 (by simp)); have HQ7 := Lib.hid hq7; have HG7 := Lib.hid hg7; clear hq7 hg7) | (refine wpList_store_blk rfl 30 _ _ rfl (w.heap.size + 1 + 1) zeroP (pktList default) rfl rfl HP7.out (by kernel_rfl) rfl (pktList_one _) ?_; intro V8 hp8 hg8))
  refine bodyPost_ret (results_cc111 Tryd.results15 rfl rfl (run_loadVar_mid _ (w.heap.size + 1) 0 28 zeroDQ _ (HQ7.out.kept hg8 (by simp)).range Tryd.underlying28 rfl (by kernel_rfl)) (run_loadVar_mid _ (w.heap.size + 1 + 1) 0 30 (pktList default) _ hp8.range Tryd.underlying30 rfl (by kernel_rfl))) rfl ?_
  exact ⟨rfl, below_grown (below_grown HB2.out HG7.out (fun k hk => by injection hk with hk; omega)) hg8 (fun k hk => by injection hk with hk; omega)⟩
end Go.Proofs.YtdecclklenaoaaaDoor
