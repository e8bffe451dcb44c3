/- Put and Take of package dual and of its reference leave the same. -/
import Derived.Test.YtdecclklenaoaaaDoorDuRefT
import Derived.Test.YtdecclklenaoaaaDoorDuSame
import Derived.Test.YtdecclklenaoaaaDoorDuLate
namespace Go.Proofs.YtdecclklenaoaaaDoor
open Go.RowKit

abbrev qList (k A B room : Int) (la : Option Addr) (ln lc : Nat) (v0 v7 : Int) (s : Nat) : List Value := [.int .i64 k, .int .i64 A, .int .i64 B, .int .i64 0, .int .i64 room, .slice la ln lc, .int .i64 v0, .int .i64 0, .int .i64 0, .int .i64 0, .int .i64 0, .int .i64 0, .int .i64 0, .int .i64 v7, .int .u64 (s : Int)]
set_option maxRecDepth 100000 in
set_option maxHeartbeats 4000000 in
theorem same_zero (w : World) : Calls Tryd.prog 16 #[.agg zeroDQ.toArray, .agg zeroDQ.toArray] w fun e V => e = .returned (.bool true) ∧ Below w.heap.size w V := by
  have hv := fun w => eq_vars 0 0 0 0 0 0 0 0 w
  go_enter Tryd.func16, Tryd.ntmps16
  go_wp2
  refine wp_loop_rounds 1 ?_
  rw [rounds_succ]
  go_wp2
  go_ret
  exact ⟨rfl, by repeat (first | exact Below.refl _ _ | refine below_drawnN ?_ _ | refine below_drawn ?_ | refine below_new ?_ _)⟩
/-- The zero queue, or a valid one. -/
def QTwin (w : World) (k A B room : Int) (la : Option Addr) (ln lc : Nat) (v0 v7 : Int) (s : Nat) (xs ys : List Ea.Item) : Prop :=
  (k = 0 ∧ A = 0 ∧ B = 0 ∧ room = 0 ∧ la = none ∧ ln = 0 ∧ lc = 0 ∧ v0 = 0 ∧ v7 = 0 ∧ s = 0) ∨
  (k = 6 ∧ ln = 2 ∧ ∃ g o a1 c1 a2 c2, la = some ⟨g, o, none⟩ ∧ QIn w A B room g o v0 v7 a1 xs.length c1 xs a2 ys.length c2 ys)
theorem same_twin {w : World} {k A B room : Int} {la lb : Option Addr} {ln lc ld : Nat} {v0 v7 : Int} {s : Nat} {xs ys : List Ea.Item} (ha : QTwin w k A B room la ln lc v0 v7 s xs ys) (hb : QTwin w k A B room lb ln ld v0 v7 s xs ys) :
    Calls Tryd.prog 16 #[.agg (qList k A B room la ln lc v0 v7 s).toArray, .agg (qList k A B room lb ln ld v0 v7 s).toArray] w fun e V => e = .returned (.bool true) ∧ Below w.heap.size w V := by
  rcases ha with ⟨rfl, rfl, rfl, rfl, rfl, rfl, rfl, rfl, rfl, rfl⟩ | ⟨rfl, rfl, g, o, a1, c1, a2, c2, rfl, hq⟩
  · rcases hb with ⟨_, _, _, _, rfl, _, rfl, _, _, _⟩ | ⟨h, _⟩
    · exact same_zero w
    · exact absurd h (by decide)
  · rcases hb with ⟨h, _⟩ | ⟨_, _, g', o', b1, d1, b2, d2, rfl, hq'⟩
    · exact absurd h (by decide)
    · exact same_yes hq hq'
theorem QTwin.below {w V : World} {k A B room : Int} {la : Option Addr} {ln lc : Nat} {v0 v7 : Int} {s : Nat} {xs ys : List Ea.Item} (h : QTwin w k A B room la ln lc v0 v7 s xs ys) (hb : Below w.heap.size w V) : QTwin V k A B room la ln lc v0 v7 s xs ys := by
  rcases h with h | ⟨h1, h2, g, o, a1, c1, a2, c2, e, hq⟩
  · exact Or.inl h
  · exact Or.inr ⟨h1, h2, g, o, a1, c1, a2, c2, e, hq.below hb⟩
/-- What a call of Put leaves: a queue, what was dropped, an error. -/
def PutOut (w : World) (k A B room : Int) (ln : Nat) (v0 v7 : Int) (s : Nat) (xs ys : List Ea.Item) (drops : List Ea.Pkt) (code : Int) (e : Ending) (V : World) : Prop :=
  ∃ la lc da dc, e = .returned (.tuple #[.agg (qList k A B room la ln lc v0 v7 s).toArray, .slice da drops.length dc, .int .i64 code]) ∧ Below w.heap.size w V ∧ QTwin V k A B room la ln lc v0 v7 s xs ys ∧ RdPk V (.slice da drops.length dc) drops
def TakeOut (w : World) (k A B room : Int) (ln : Nat) (v0 v7 : Int) (s : Nat) (xs ys : List Ea.Item) (p : Ea.Pkt) (is : Bool) (drops : List Ea.Pkt) (code : Int) (e : Ending) (V : World) : Prop :=
  ∃ la lc da dc, e = .returned (.tuple #[.agg (qList k A B room la ln lc v0 v7 s).toArray, pktVal p, .bool is, .slice da drops.length dc, .int .i64 code]) ∧ Below w.heap.size w V ∧ QTwin V k A B room la ln lc v0 v7 s xs ys ∧ RdPk V (.slice da drops.length dc) drops
theorem rdPk_nil (V : World) : RdPk V (.slice none 0 0) [] := ⟨none, 0, rfl, fun i hi => absurd hi (by simp)⟩
theorem putX_len {room : Int} {xs ys : List Ea.Item} {p : Ea.Pkt} {now : Int} {xs1 ys1 : List Ea.Item} {dr1 : List Ea.Pkt} (h : putX room xs ys p now = (xs1, ys1, dr1)) : dr1.length ≤ 1000 := by
  unfold putX at h
  split at h
  · injection h with _ h
    injection h with _ h
    subst h
    simp
  · split at h <;> (injection h with _ h; injection h with _ h; subst h; simp)
theorem put_out (kind A B C room : Int) (la : Option Addr) (ln lc : Nat) (v0 v1 v2 v3 v4 v5 v6 v7 : Int) (s : Nat) (W : World) (hL : RdLs6 W la ln) (p : Ea.Pkt) (now : Int) :
    ∃ k A' B' room' ln' r' t' s' xs' ys' drops code, drops.length ≤ 1000 ∧ (∀ V, Below W.heap.size W V → Calls Tryd.prog 12 #[.agg #[.int .i64 kind, .int .i64 A, .int .i64 B, .int .i64 C, .int .i64 room, .slice la ln lc, .int .i64 v0, .int .i64 v1, .int .i64 v2, .int .i64 v3, .int .i64 v4, .int .i64 v5, .int .i64 v6, .int .i64 v7, .int .u64 (s : Int)], pktVal p, .int .i64 now] V (PutOut V k A' B' room' ln' r' t' s' xs' ys' drops code)) ∧
      ∀ V, Below W.heap.size W V → Calls Tryd.prog 13 #[.agg #[.int .i64 kind, .int .i64 A, .int .i64 B, .int .i64 C, .int .i64 room, .slice la ln lc, .int .i64 v0, .int .i64 v1, .int .i64 v2, .int .i64 v3, .int .i64 v4, .int .i64 v5, .int .i64 v6, .int .i64 v7, .int .u64 (s : Int)], pktVal p, .int .i64 now] V (PutOut V k A' B' room' ln' r' t' s' xs' ys' drops code) := by
  have zero : ∀ (w : World) (code : Int) (e : Ending) (V : World), (e = .returned (.tuple #[.agg zeroDQ.toArray, .slice none 0 0, .int .i64 code]) ∧ Below w.heap.size w V) → PutOut w 0 0 0 0 0 0 0 0 [] [] [] code e V := by
    rintro w code e V ⟨rfl, hb⟩
    exact ⟨none, 0, none, 0, rfl, hb, Or.inl ⟨rfl, rfl, rfl, rfl, rfl, rfl, rfl, rfl, rfl, rfl⟩, rdPk_nil V⟩
  by_cases hall : p.ok ∧ VOk2 W kind A B C room la ln v0 v1 v2 v3 v4 v5 v6 v7 ∧ 0 ≤ now ∧ now ≤ 10000000
  · obtain ⟨hp, ⟨rfl, rfl, rfl, rfl, rfl, rfl, rfl, rfl, rfl, ab, ao, a1, n1, c1, xs, a2, n2, c2, ys, rfl, hq⟩, t1, t2⟩ := hall
    by_cases hlate : now < v7
    · refine ⟨0, 0, 0, 0, 0, 0, 0, 0, [], [], [], 18, by simp, fun V hb => ?_, fun V hb => ?_⟩
      · exact (put_late (hq.below hb) lc s p hp now t1 hlate t2).mono fun e V' h => zero V 18 e V' h
      · exact (rput_no 6 A B 0 room (some ⟨ab, ao, none⟩) 2 lc v0 0 0 0 0 0 0 v7 s V (hL.below hb) p now 18 (by decide) (Or.inr ⟨hp, Or.inr (Or.inl ⟨rfl, (hq.below hb).vok, t1, t2, hlate⟩)⟩)).mono fun e V' h => zero V 18 e V' h
    · obtain ⟨⟨xs', ys', drops⟩, ho⟩ : ∃ r, putX room xs ys p now = r := ⟨_, rfl⟩
      refine ⟨6, A, B, room, 2, v0, now, s, xs', ys', drops, 0, putX_len ho, fun V hb => ?_, fun V hb => ?_⟩
      · refine (put_r (hq.below hb) lc s p hp now (by omega) t2 ho).mono ?_
        rintro e V' ⟨g, e1, f1, e2, f2, da, dc, rfl, hb', hqa, -, -, hra⟩
        exact ⟨some ⟨g, 15, none⟩, 2, da, dc, rfl, hb', Or.inr ⟨rfl, rfl, g, 15, e1, f1, e2, f2, rfl, hqa⟩, hra⟩
      · refine (rput_r (hq.below hb) lc s p hp now (by omega) t2 ho).mono ?_
        rintro e V' ⟨g, o, lc', e1, f1, e2, f2, da, dc, rfl, hb', hqa, hra⟩
        exact ⟨some ⟨g, o, none⟩, lc', da, dc, rfl, hb', Or.inr ⟨rfl, rfl, g, o, e1, f1, e2, f2, rfl, hqa⟩, hra⟩
  · refine ⟨0, 0, 0, 0, 0, 0, 0, 0, [], [], [], 1, by simp, fun V hb => ?_, fun V hb => ?_⟩
    · exact (put_bad kind A B C room la ln lc v0 v1 v2 v3 v4 v5 v6 v7 s V (hL.below hb) p now (fun h => hall ⟨h.1, VOk2.back hL.1 hb h.2.1, h.2.2⟩)).mono fun e V' h => zero V 1 e V' h
    · refine (rput_no kind A B C room la ln lc v0 v1 v2 v3 v4 v5 v6 v7 s V (hL.below hb) p now 1 (by decide) ?_).mono fun e V' h => zero V 1 e V' h
      by_cases hp : p.ok
      · exact Or.inr ⟨hp, Or.inl ⟨rfl, fun h => hall ⟨hp, VOk2.back hL.1 hb h.1, h.2⟩⟩⟩
      · exact Or.inl ⟨rfl, hp⟩
/-- How many packets are dropped at most. -/
theorem take_drops (A B now : Int) : ∀ (ys xs : List Ea.Item) (row : Int) (s : Nat) (drops : List Ea.Pkt), (Du.take A B now xs ys row s drops).drops.length ≤ drops.length + ys.length
  | [], [], row, s, drops => by rw [Du.take]; simp
  | [], x :: xs, row, s, drops => by rw [Du.take]; split <;> simp
  | y :: ys, [], row, s, drops => by
    rw [Du.take]
    split
    · have h := take_drops A B now ys [] 0 (Rand.nextSeed s) (drops ++ [y.p])
      rw [List.length_append] at h
      simp only [List.length_cons, List.length_nil] at h ⊢
      omega
    · simp only [List.length_cons]; omega
  | y :: ys, x :: xs, row, s, drops => by
    rw [Du.take]
    split
    · split
      · have h := take_drops A B now ys (x :: xs) 0 (Rand.nextSeed s) (drops ++ [y.p])
        rw [List.length_append] at h
        simp only [List.length_cons, List.length_nil] at h ⊢
        omega
      · simp only [List.length_cons]; omega
    · split <;> (simp only [List.length_cons]; omega)
theorem take_out (kind A B C room : Int) (la : Option Addr) (ln lc : Nat) (v0 v1 v2 v3 v4 v5 v6 v7 : Int) (s : Nat) (W : World) (hL : RdLs6 W la ln) (hT : Table W) (now : Int) :
    ∃ k A' B' room' ln' r' t' s' xs' ys' p is drops code, drops.length ≤ 1000 ∧ (∀ V, Below W.heap.size W V → Calls Tryd.prog 14 #[.agg #[.int .i64 kind, .int .i64 A, .int .i64 B, .int .i64 C, .int .i64 room, .slice la ln lc, .int .i64 v0, .int .i64 v1, .int .i64 v2, .int .i64 v3, .int .i64 v4, .int .i64 v5, .int .i64 v6, .int .i64 v7, .int .u64 (s : Int)], .int .i64 now] V (TakeOut V k A' B' room' ln' r' t' s' xs' ys' p is drops code)) ∧
      ∀ V, Below W.heap.size W V → Calls Tryd.prog 15 #[.agg #[.int .i64 kind, .int .i64 A, .int .i64 B, .int .i64 C, .int .i64 room, .slice la ln lc, .int .i64 v0, .int .i64 v1, .int .i64 v2, .int .i64 v3, .int .i64 v4, .int .i64 v5, .int .i64 v6, .int .i64 v7, .int .u64 (s : Int)], .int .i64 now] V (TakeOut V k A' B' room' ln' r' t' s' xs' ys' p is drops code) := by
  have zero : ∀ (w : World) (code : Int) (e : Ending) (V : World), (e = .returned (.tuple #[.agg zeroDQ.toArray, pktVal default, .bool false, .slice none 0 0, .int .i64 code]) ∧ Below w.heap.size w V) → TakeOut w 0 0 0 0 0 0 0 0 [] [] default false [] code e V := by
    rintro w code e V ⟨rfl, hb⟩
    exact ⟨none, 0, none, 0, rfl, hb, Or.inl ⟨rfl, rfl, rfl, rfl, rfl, rfl, rfl, rfl, rfl, rfl⟩, rdPk_nil V⟩
  by_cases hall : VOk2 W kind A B C room la ln v0 v1 v2 v3 v4 v5 v6 v7 ∧ 0 ≤ now ∧ now ≤ 10000000
  · obtain ⟨⟨rfl, rfl, rfl, rfl, rfl, rfl, rfl, rfl, rfl, ab, ao, a1, n1, c1, xs, a2, n2, c2, ys, rfl, hq⟩, t1, t2⟩ := hall
    by_cases hlate : now < v7
    · refine ⟨0, 0, 0, 0, 0, 0, 0, 0, [], [], default, false, [], 18, by simp, fun V hb => ?_, fun V hb => ?_⟩
      · exact (take_late (hq.below hb) lc s now t1 hlate t2).mono fun e V' h => zero V 18 e V' h
      · exact (rtake_no 6 A B 0 room (some ⟨ab, ao, none⟩) 2 lc v0 0 0 0 0 0 0 v7 s V (hL.below hb) now 18 (by decide) (Or.inr (Or.inl ⟨rfl, (hq.below hb).vok, t1, t2, hlate⟩))).mono fun e V' h => zero V 18 e V' h
    · obtain ⟨⟨xs', ys', row, s', got, drops⟩, ho⟩ : ∃ r, Du.take A B now xs ys v0 s [] = r := ⟨_, rfl⟩
      refine ⟨6, A, B, room, 2, row, now, s', xs', ys', got.getD default, got.isSome, drops, 0, ?_, fun V hb => ?_, fun V hb => ?_⟩
      · have h1 := take_drops A B now ys xs v0 s []
        rw [ho] at h1
        have h2 := hq.ok.short
        simp only [List.length_nil] at h1
        omega
      · refine (take_r (hq.below hb) lc s (table_below hT hb) now (by omega) t2 ho _ _ rfl rfl).mono ?_
        rintro e V' ⟨g, e1, f1, e2, f2, da, dc, rfl, hb', hqa, -, -, hra⟩
        exact ⟨some ⟨g, 15, none⟩, 2, da, dc, rfl, hb', Or.inr ⟨rfl, rfl, g, 15, e1, f1, e2, f2, rfl, hqa⟩, hra⟩
      · refine (rtake_q (hq.below hb) lc s now (by omega) t2).mono ?_
        rw [ho]
        rintro e V' ⟨g, o, lc', e1, f1, e2, f2, da, dc, rfl, hb', hqa, hra⟩
        exact ⟨some ⟨g, o, none⟩, lc', da, dc, rfl, hb', Or.inr ⟨rfl, rfl, g, o, e1, f1, e2, f2, rfl, hqa⟩, hra⟩
  · refine ⟨0, 0, 0, 0, 0, 0, 0, 0, [], [], default, false, [], 1, by simp, fun V hb => ?_, fun V hb => ?_⟩
    · exact (take_bad kind A B C room la ln lc v0 v1 v2 v3 v4 v5 v6 v7 s V (hL.below hb) now (fun h => hall ⟨VOk2.back hL.1 hb h.1, h.2⟩)).mono fun e V' h => zero V 1 e V' h
    · exact (rtake_no kind A B C room la ln lc v0 v1 v2 v3 v4 v5 v6 v7 s V (hL.below hb) now 1 (by decide) (Or.inl ⟨rfl, fun h => hall ⟨VOk2.back hL.1 hb h.1, h.2⟩⟩)).mono fun e V' h => zero V 1 e V' h
theorem valid_out (kind A B C room : Int) (la : Option Addr) (ln lc : Nat) (v0 v1 v2 v3 v4 v5 v6 v7 : Int) (s : Nat) (W : World) (hL : RdLs6 W la ln) :
    ∃ b : Bool, (∀ V, Below W.heap.size W V → Calls Tryd.prog 18 #[.agg #[.int .i64 kind, .int .i64 A, .int .i64 B, .int .i64 C, .int .i64 room, .slice la ln lc, .int .i64 v0, .int .i64 v1, .int .i64 v2, .int .i64 v3, .int .i64 v4, .int .i64 v5, .int .i64 v6, .int .i64 v7, .int .u64 (s : Int)]] V fun e V' => e = .returned (.bool b) ∧ Below V.heap.size V V') ∧
      ∀ V, Below W.heap.size W V → Calls Tryd.prog 19 #[.agg #[.int .i64 kind, .int .i64 A, .int .i64 B, .int .i64 C, .int .i64 room, .slice la ln lc, .int .i64 v0, .int .i64 v1, .int .i64 v2, .int .i64 v3, .int .i64 v4, .int .i64 v5, .int .i64 v6, .int .i64 v7, .int .u64 (s : Int)]] V fun e V' => e = .returned (.bool b) ∧ Below V.heap.size V V' := by
  obtain ⟨b, hb⟩ : ∃ b : Bool, b = true ↔ VOk2 W kind A B C room la ln v0 v1 v2 v3 v4 v5 v6 v7 := by
    by_cases h : VOk2 W kind A B C room la ln v0 v1 v2 v3 v4 v5 v6 v7
    · exact ⟨true, fun _ => h, fun _ => rfl⟩
    · exact ⟨false, fun e => (by cases e), fun k => absurd k h⟩
  have key : ∀ V, Below W.heap.size W V → ∀ b2 : Bool, (b2 = true ↔ VOk2 V kind A B C room la ln v0 v1 v2 v3 v4 v5 v6 v7) → b2 = b := fun V hV b2 h2 => by
    rw [Bool.eq_iff_iff, h2, hb]
    exact ⟨fun h => VOk2.back hL.1 hV h, fun h => VOk2.onto hV h⟩
  refine ⟨b, fun V hV => ?_, fun V hV => ?_⟩
  · refine (dvalid_any kind A B C room la ln lc v0 v1 v2 v3 v4 v5 v6 v7 s V (hL.below hV)).mono ?_
    rintro e V' ⟨⟨b2, rfl, h2⟩, hb'⟩
    rw [key V hV b2 h2]
    exact ⟨rfl, hb'⟩
  · refine (rvalid_any kind A B C room la ln lc v0 v1 v2 v3 v4 v5 v6 v7 s V (hL.below hV).1 (hL.below hV).2).mono ?_
    rintro e V' ⟨⟨b2, rfl, h2⟩, hb'⟩
    rw [key V hV b2 h2]
    exact ⟨rfl, hb'⟩
end Go.Proofs.YtdecclklenaoaaaDoor
