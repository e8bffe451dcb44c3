/- some and inside: the packets of a kind, and whether a list is the other one without what is gone. -/
import Derived.Test.YtdecclklenaoaaaDoorDuGone
import Derived.Test.YtdecclklenaoaaaDoorDuBuild
import Derived.Test.YtdecclklenaoaaaDoorDuKeep
namespace Go.Proofs.YtdecclklenaoaaaDoor
open Go.RowKit

theorem only_snoc {b : Bool} {l : List Ea.Pkt} {k : Nat} (hk : k < l.length) : Du.only b (l.take (k + 1)) = Du.only b (l.take k) ++ (if (l.getD k default).able = b then [l.getD k default] else []) := by
  rw [List.take_add_one, Du.only_append]
  congr 1
  rw [List.getElem?_eq_getElem hk, List.getD_eq_getElem?_getD, List.getElem?_eq_getElem hk]
  simp only [Option.toList, Option.getD_some, Du.only]
  by_cases h : l[k].able = b
  · simp [h]
  · simp [h]
theorem only_len (b : Bool) (l : List Ea.Pkt) : (Du.only b l).length ≤ l.length := List.length_filter_le _ _
theorem take_len {α : Type} (l : List α) (k : Nat) : (l.take k).length ≤ l.length := by simp; omega
set_option maxRecDepth 100000 in
set_option maxHeartbeats 4000000 in
theorem some_any (v0 : Value) (l : List Ea.Pkt) (b : Bool) (w : World) (hr : RdPk w v0 l) (hn : l.length ≤ 1000) :
    Calls Tryd.prog 21 #[v0, .bool b] w fun e V => ∃ v, e = .returned v ∧ OwnP V w.heap.size v (Du.only b l) ∧ Below w.heap.size w V := by
  obtain ⟨a, c, rfl, ha⟩ := hr
  obtain ⟨n, hnn⟩ : ∃ n, l.length = n := ⟨_, rfl⟩
  rw [hnn] at ha hn ⊢
  have HA := Lib.hid ha
  have HN := Lib.hid hnn
  clear ha hnn
  go_enter Tryd.func21, Tryd.ntmps21
  go_wp2
  go_loopw [5, 10] (fun v i wr => ∃ k : Nat, k ≤ n ∧ i = .int .i64 k ∧ Below w.heap.size w wr ∧ OwnP wr w.heap.size v (Du.only b (l.take k))) (fun _ i _ => n - (intOf i).toNat)
  case atStart => exact ⟨0, Nat.zero_le _, rfl, Below.refl _ _, OwnP.nil _ _⟩
  case round =>
    obtain ⟨k, hk, rfl, hW, hO⟩ := hrel
    have HW := Lib.hid hW
    have HO := Lib.hid hO
    have hlen := Nat.le_trans (only_len b (l.take k)) (take_len l k)
    rw [HN.out] at hlen
    clear hW hO
    by_cases hlt : k < n
    · obtain ⟨p, o, rfl, hx'⟩ := HA.out k hlt
      have hx := rangeAt_below hx' HW.out
      have hz := HW.out.size
      have hs := only_snoc (b := b) (l := l) (k := k) (by rw [HN.out]; exact hlt)
      obtain ⟨x, hxx⟩ : ∃ x, l.getD k default = x := ⟨_, rfl⟩
      rw [hxx] at hx hs
      clear hxx hx'
      have x0 : wr.cell? ⟨p, o + k * 8, none⟩ = some (.int .i64 x.flow) := hx 0 _ rfl
      have x1 := hx 1 _ rfl
      have x2 := hx 2 _ rfl
      have x3 := hx 3 _ rfl
      have x4 := hx 4 _ rfl
      have x5 := hx 5 _ rfl
      have x6 := hx 6 _ rfl
      have x7 := hx 7 _ rfl
      clear hx
      by_cases hb : x.able = b
      · rw [if_pos hb] at hs
        rw [hb] at x6
        have HS := Lib.hid hs
        have HB := Lib.hid hb
        clear hs hb
        go_wp2_with (first | (refine wpList_load_mid rfl 30 (.tmp 7) rfl wr.heap.size 0 rfl (pktList x) _ (by rw [← HB.out]; exact (Blk.new wr (pktList x).toArray 30).range) Tryd.underlying30 rfl (by kernel_rfl) ?_) | (refine wpList_build_pkt rfl (.tmp 19) rfl x rfl ?_) | (refine wpList_add_pkt rfl (.tmp 18) (.tmp 20) rfl rfl (own_below8 HO.out (below_new (below_new (Below.refl _ _) _) _)) (by simp; omega) _ 0 x rfl (by exact (Blk.new _ (pktList x).toArray 30).range) (by omega) ?_; intro v' V5 hown5 hgr5; rw [← HS.out] at hown5; have HW5 := Lib.hid hown5; have HG5 := Lib.hid hgr5; clear hown5 hgr5))
        go_roundw
        case rel =>
          refine ⟨k + 1, by omega, by go_num, ?_, HW5.out⟩
          refine below_grown (below_new (below_new HW.out _) _) HG5.out (fun j hj => ?_)
          exact (HO.out.lt j hj).1
        case measure => simp [intOf]; omega
      · rw [if_neg hb, List.append_nil] at hs
        have hb' : x.able = !b := by cases h1 : x.able <;> cases h2 : b <;> simp_all
        rw [hb'] at x6
        have HS := Lib.hid hs
        clear hs hb hb'
        cases b with
        | true =>
          go_wp2
          go_roundw
          case rel => exact ⟨k + 1, by omega, by go_num, below_new HW.out _, by rw [HS.out]; exact own_below8 HO.out (below_new (Below.refl _ _) _)⟩
          case measure => simp [intOf]; omega
        | false =>
          go_wp2
          go_roundw
          case rel => exact ⟨k + 1, by omega, by go_num, below_new HW.out _, by rw [HS.out]; exact own_below8 HO.out (below_new (Below.refl _ _) _)⟩
          case measure => simp [intOf]; omega
    · obtain rfl : k = n := by omega
      go_wp2
      go_ret
      refine ⟨_, rfl, ?_, HW.out⟩
      have h := HO.out
      rw [← HN.out, List.take_length] at h
      exact h
theorem still_drop {gone : List Int} {l : List Ea.Pkt} {j : Nat} (hj : j < l.length) : Du.still gone (l.drop j) = (if gone.contains (l.getD j default).number then [] else [l.getD j default]) ++ Du.still gone (l.drop (j + 1)) := by
  rw [List.drop_eq_getElem_cons hj, List.getD_eq_getElem?_getD, List.getElem?_eq_getElem hj]
  simp only [Option.getD_some, Du.still, List.filter_cons]
  cases gone.contains l[j].number <;> simp
set_option maxRecDepth 100000 in
set_option maxHeartbeats 4000000 in
theorem inside_yes (v0 v1 : Value) (came stay : List Ea.Pkt) (gone : List Int) (b : Nat) (w : World) (hr0 : RdPk w v0 came) (hr1 : RdPk w v1 stay) (hg : Gone w b gone) (hn0 : came.length ≤ 1000) (hn1 : stay.length ≤ 2000) (hlow : ∀ p ∈ came, 0 ≤ p.number ∧ p.number ≤ 1000000000) (he : Du.still gone came = stay.map Du.plainP) :
    Calls Tryd.prog 22 #[v0, v1, .map (some b)] w fun e V => e = .returned (.bool true) ∧ Below w.heap.size w V := by
  obtain ⟨a, c, rfl, ha⟩ := hr0
  obtain ⟨a', c', rfl, ha'⟩ := hr1
  obtain ⟨n, hnn⟩ : ∃ n, came.length = n := ⟨_, rfl⟩
  obtain ⟨m, hmm⟩ : ∃ m, stay.length = m := ⟨_, rfl⟩
  rw [hnn] at ha hn0 ⊢
  rw [hmm] at ha' hn1 ⊢
  have HA := Lib.hid ha
  have HA' := Lib.hid ha'
  have HN := Lib.hid hnn
  have HM := Lib.hid hmm
  have HG := Lib.hid hg
  have HLOW := Lib.hid hlow
  have HE := Lib.hid he
  clear ha ha' hnn hmm hg hlow he
  go_enter Tryd.func22, Tryd.ntmps22
  go_wp2
  go_loopw [7, 13] (fun kk i wr => ∃ j k : Nat, j ≤ n ∧ k ≤ m ∧ i = .int .i64 j ∧ kk = .int .i64 k ∧ Below w.heap.size w wr ∧ Du.still gone (came.drop j) = (stay.drop k).map Du.plainP) (fun _ i _ => n - (intOf i).toNat)
  case atStart => exact ⟨0, 0, Nat.zero_le _, Nat.zero_le _, rfl, rfl, Below.refl _ _, HE.out⟩
  case round =>
    obtain ⟨j, k, hj, hk, rfl, rfl, hW, hS⟩ := hrel
    have HW := Lib.hid hW
    clear hW
    by_cases hlt : j < n
    · obtain ⟨p, o, rfl, hx'⟩ := HA.out j hlt
      have hx := rangeAt_below hx' HW.out
      rw [still_drop (by rw [HN.out]; exact hlt)] at hS
      have hxl := HLOW.out (came.getD j default) (by rw [List.getD_eq_getElem?_getD, List.getElem?_eq_getElem (by rw [HN.out]; exact hlt)]; exact List.getElem_mem _)
      obtain ⟨x, hxx⟩ : ∃ x, came.getD j default = x := ⟨_, rfl⟩
      rw [hxx] at hx hS hxl
      clear hxx hx'
      obtain ⟨hx0, hx1⟩ := hxl
      have x0 : wr.cell? ⟨p, o + j * 8, none⟩ = some (.int .i64 x.flow) := hx 0 _ rfl
      have x1 := hx 1 _ rfl
      have x2 := hx 2 _ rfl
      have x3 := hx 3 _ rfl
      have x4 := hx 4 _ rfl
      have x5 := hx 5 _ rfl
      have x6 := hx 6 _ rfl
      have x7 := hx 7 _ rfl
      clear hx
      have HGW := Lib.hid (HG.out.below HW.out)
      cases hc : gone.contains x.number with
      | true =>
        rw [if_pos hc, List.nil_append] at hS
        have HS := Lib.hid hS
        have HC := Lib.hid hc
        clear hS hc
        go_wp2_with (refine wpList_gone_look rfl (.tmp 17) (.tmp 19) rfl b gone rfl (HGW.out.below (below_new (Below.refl _ _) _)) x.number rfl hx0 hx1 ?_; rw [HC.out])
        go_roundw
        case rel => exact ⟨j + 1, k, by omega, hk, by go_num, rfl, below_new HW.out _, HS.out⟩
        case measure => simp [intOf]; omega
      | false =>
        rw [if_neg (by rw [hc]; simp)] at hS
        have hkm : k < m := by
          rcases Nat.lt_or_ge k m with h | h
          · exact h
          · have e0 : stay.drop k = [] := List.drop_eq_nil_of_le (by rw [HM.out]; exact h)
            rw [e0] at hS
            simp at hS
        rw [List.drop_eq_getElem_cons (l := stay) (i := k) (by rw [HM.out]; exact hkm), List.map_cons, List.singleton_append] at hS
        have hsx : Du.plainP (stay.getD k default) = x ∧ Du.still gone (came.drop (j + 1)) = (stay.drop (k + 1)).map Du.plainP := by
          rw [List.getD_eq_getElem?_getD, List.getElem?_eq_getElem (by rw [HM.out]; exact hkm)]
          injection hS with h1 h2
          exact ⟨h1.symm, h2⟩
        obtain ⟨hs1, hs2⟩ := hsx
        obtain ⟨p', o', rfl, hy'⟩ := HA'.out k hkm
        have hy := rangeAt_below hy' HW.out
        obtain ⟨s, hss⟩ : ∃ s, stay.getD k default = s := ⟨_, rfl⟩
        rw [hss] at hy hs1
        subst hs1
        clear hss hy' hS
        have y0 : ∀ o, (wr.alloc o).cell? ⟨p', o' + k * 8, none⟩ = some (.int .i64 s.flow) := fun o => below_cell_of (below_new (Below.refl _ _) o) (hy 0 _ rfl)
        have y1 := fun o => below_cell_of (below_new (Below.refl _ _) o) (hy 1 _ rfl)
        have y2 := fun o => below_cell_of (below_new (Below.refl _ _) o) (hy 2 _ rfl)
        have y3 := fun o => below_cell_of (below_new (Below.refl _ _) o) (hy 3 _ rfl)
        have y4 := fun o => below_cell_of (below_new (Below.refl _ _) o) (hy 4 _ rfl)
        have y5 := fun o => below_cell_of (below_new (Below.refl _ _) o) (hy 5 _ rfl)
        have y6 := fun o => below_cell_of (below_new (Below.refl _ _) o) (hy 6 _ rfl)
        have y7 := fun o => below_cell_of (below_new (Below.refl _ _) o) (hy 7 _ rfl)
        have HS := Lib.hid hs2
        have HC := Lib.hid hc
        have dk : decide ((m : Int) ≤ (k : Int)) = false := decide_eq_false (by omega)
        clear hs2 hc hy
        simp only [Du.plainP] at x0 x1 x2 x3 x4 x5 x6 x7 hx0 hx1
        go_wp2_with (refine wpList_gone_look rfl (.tmp 17) (.tmp 19) rfl b gone rfl (HGW.out.below (below_new (Below.refl _ _) _)) s.number rfl hx0 hx1 ?_; rw [show gone.contains s.number = false from HC.out])
        go_roundw
        case rel => exact ⟨j + 1, k + 1, by omega, by omega, by go_num, by go_num, below_new (below_new HW.out _) _, HS.out⟩
        case measure => simp [intOf]; omega
    · obtain rfl : j = n := by omega
      have hkm : k = m := by
        rw [List.drop_eq_nil_of_le (by rw [HN.out]; exact Nat.le_refl _)] at hS
        have h2 := congrArg List.length hS
        simp [Du.still] at h2
        have h3 := HM.out
        omega
      subst hkm
      go_wp2
      go_ret
      exact ⟨rfl, HW.out⟩
end Go.Proofs.YtdecclklenaoaaaDoor
