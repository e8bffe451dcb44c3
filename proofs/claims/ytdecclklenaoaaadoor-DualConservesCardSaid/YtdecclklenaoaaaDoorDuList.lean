/- isList of package dual: whether a list is in order, and its packets are all Able, or none is. -/
import Derived.Test.YtdecclklenaoaaaDoorDuSmall
import Derived.Test.YtdecclklenaoaaaDoorEaRow
namespace Go.Proofs.YtdecclklenaoaaaDoor
open Go.RowKit

/-- A packet of a list is right, as package dual tests it. -/
structure goodD (xs : List Ea.Item) (last : Int) (b : Bool) (i : Nat) : Prop where
  ok : (xs.getD i default).p.ok
  able : (xs.getD i default).p.able = b
  low : (if i = 0 then 0 else (xs.getD (i - 1) default).since) ≤ (xs.getD i default).since
  high : (xs.getD i default).since ≤ last
def ListD (xs : List Ea.Item) (last : Int) (b : Bool) : Prop := ∀ i, i < xs.length → goodD xs last b i
theorem listD_iff {xs : List Ea.Item} {last : Int} {b : Bool} (h : last ≤ 10000000) : ListD xs last b ↔ (Ea.listOk xs last ∧ Du.allAble xs b) := by
  constructor
  · intro g
    have nn : ∀ i, i < xs.length → 0 ≤ (xs.getD i default).since := by
      intro i
      induction i with
      | zero => intro hi; have := (g 0 hi).low; rwa [if_pos rfl] at this
      | succ i ih =>
        intro hi
        have h1 := (g (i + 1) hi).low
        rw [if_neg (by omega), Nat.add_sub_cancel] at h1
        exact Int.le_trans (ih (by omega)) h1
    refine ⟨fun i hi => ⟨(g i hi).ok, nn i hi, Int.le_trans (g i hi).high h, (g i hi).high, fun h0 => ?_⟩, fun i hi => (g i hi).able⟩
    have h1 := (g i hi).low
    rwa [if_neg (by omega)] at h1
  · rintro ⟨g, a⟩ i hi
    refine ⟨(g i hi).ok, a i hi, ?_, (g i hi).high⟩
    split
    · exact (g i hi).low
    · exact (g i hi).up (by omega)
set_option maxRecDepth 100000 in
set_option maxHeartbeats 8000000 in
theorem isList_any (a : Option Addr) (n c : Nat) (xs : List Ea.Item) (last : Int) (able : Bool) (w : World) (hr : RdQ w a n xs) (hn : (n : Int) ≤ 9223372036854775807) :
    Calls Tryd.prog 39 #[.slice a n c, .int .i64 last, .bool able] w fun e w' => (∃ b : Bool, e = .returned (.bool b) ∧ (b = true ↔ ListD xs last able)) ∧ Below w.heap.size w w' := by
  have HR := Lib.hid hr
  have HXL := Lib.hid hr.1
  clear hr
  go_enter Tryd.func39, Tryd.ntmps39
  go_wp2
  go_loopw [7, 12] (fun v i wr => ∃ k : Nat, k ≤ n ∧ i = .int .i64 k ∧ (∃ z : Int, v = .int .i64 z ∧ z = if k = 0 then 0 else (xs.getD (k - 1) default).since) ∧ (∀ j, j < k → goodD xs last able j) ∧ Below w.heap.size w wr) (fun _ i _ => n - (intOf i).toNat)
  case atStart => exact ⟨0, Nat.zero_le _, rfl, ⟨0, rfl, by simp⟩, fun j hj => absurd hj (Nat.not_lt_zero j), Below.refl _ _⟩
  case round =>
    obtain ⟨k, hk, rfl, ⟨z, rfl, hz⟩, heq, hB⟩ := hrel
    have HZ := Lib.hid hz
    have HEQ := Lib.hid heq
    have HB := Lib.hid hB
    clear hB hz heq
    by_cases hlt : k < n
    · obtain ⟨b, o, rfl, hrk⟩ := (HR.out.below HB.out).2 k hlt
      obtain ⟨x, hxx⟩ : ∃ x, xs.getD k default = x := ⟨_, rfl⟩
      rw [hxx] at hrk
      have HXX := Lib.hid hxx
      have HRK := Lib.hid hrk
      clear hrk hxx
      obtain ⟨⟨pf, ps, pn, pd, pz, pt, pa, pm⟩, since⟩ := x
      have bad : ¬ goodD xs last able k → ∀ {V : World}, Below w.heap.size w V → (∃ b : Bool, Ending.returned (.bool false) = .returned (.bool b) ∧ (b = true ↔ ListD xs last able)) ∧ Below w.heap.size w V := fun hg V hV =>
        ⟨⟨false, rfl, ⟨(fun h => by cases h), (fun h => absurd (h k (by have := HXL.out; omega)) hg)⟩⟩, hV⟩
      have HBAD := Lib.hid @bad
      clear bad
      go_wp2_with (first | (refine wpList_load_mid rfl 51 _ rfl b (o + k * 9) (by first | rfl | exact congrArg (fun x => Value.pointer (some x)) (Addr.add_mid _ _ _)) (itemList ⟨⟨pf, ps, pn, pd, pz, pt, pa, pm⟩, since⟩) _ HRK.out Tryd.underlying51 rfl (by kernel_rfl) ?_) | (refine wpList_store_new rfl 51 _ _ rfl _ #[.int .i64 pf, .int .i64 ps, .int .i64 pn, .int .i64 pd, .int .i64 pz, .int .i64 pt, .bool pa, .bool pm, .int .i64 since] rfl rfl (by kernel_rfl) rfl rfl ?_))
      refine (isPacket_any ⟨pf, ps, pn, pd, pz, pt, pa, pm⟩ _).mono ?_
      obtain ⟨bo, hbo⟩ : ∃ b, decide (Ea.Pkt.mk pf ps pn pd pz pt pa pm).ok = b := ⟨_, rfl⟩
      rw [hbo]
      rintro e w2 ⟨rfl, hb2⟩
      have HBO := Lib.hid hbo
      have hx2 := (Blk.new wr #[.int .i64 pf, .int .i64 ps, .int .i64 pn, .int .i64 pd, .int .i64 pz, .int .i64 pt, .bool pa, .bool pm, .int .i64 since] 51).below hb2
      have x6 := hx2.cell 6 rfl
      have x8 := hx2.cell 8 rfl
      have HB2 := Lib.hid (below_on (below_new HB.out _) hb2)
      clear hbo hb2 hx2
      cases bo with
      | false =>
        go_wp2
        go_ret
        exact HBAD.out (fun g => by have := g.ok; rw [HXX.out] at this; exact of_decide_eq_false HBO.out this) HB2.out
      | true =>
        cases hab : (pa == able) with
        | false =>
          have hne : pa ≠ able := by intro h; rw [h] at hab; simp at hab
          have HAB := Lib.hid hne
          have hnb : (pa != able) = true := by rw [bne, hab]; rfl
          clear hne hab
          go_wp2
          go_ret
          exact HBAD.out (fun g => by have := g.able; rw [HXX.out] at this; exact HAB.out this) HB2.out
        | true =>
          obtain rfl : pa = able := by simpa using hab
          clear hab
          obtain ⟨bt, hbt⟩ : ∃ b, decide (z ≤ since ∧ since ≤ last) = b := ⟨_, rfl⟩
          have HBT := Lib.hid hbt
          clear hbt
          go_wp2_with fail
          refine (between_any since z last _).mono ?_
          rw [HBT.out]
          rintro e w3 ⟨rfl, rfl⟩
          cases bt with
          | false =>
            go_wp2
            go_ret
            exact HBAD.out (fun g => by
              have h1 := g.low
              have h2 := g.high
              rw [← HZ.out, HXX.out] at h1
              rw [HXX.out] at h2
              exact of_decide_eq_false HBT.out ⟨h1, h2⟩) HB2.out
          | true =>
            go_wp2
            go_roundw
            case rel => exact ⟨k + 1, by omega, by go_num, ⟨since, rfl, by rw [if_neg (by omega), Nat.add_sub_cancel, HXX.out]⟩, fun j hj => by
              by_cases e : j = k
              · subst e
                have h2 := of_decide_eq_true HBT.out
                exact ⟨by rw [HXX.out]; exact of_decide_eq_true HBO.out, by rw [HXX.out], by rw [← HZ.out, HXX.out]; exact h2.1, by rw [HXX.out]; exact h2.2⟩
              · exact HEQ.out j (by omega), HB2.out⟩
            case measure => simp [intOf]; omega
    · obtain rfl : k = n := by omega
      go_wp2
      go_ret
      exact ⟨⟨true, rfl, ⟨fun _ i hi => HEQ.out i (by have := HXL.out; omega), fun _ => rfl⟩⟩, HB.out⟩
end Go.Proofs.YtdecclklenaoaaaDoor
