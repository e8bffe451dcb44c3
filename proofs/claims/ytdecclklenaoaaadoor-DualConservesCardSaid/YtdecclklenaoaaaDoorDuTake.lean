/- Take of package dual, at a valid queue. -/
import Derived.Test.YtdecclklenaoaaaDoorDuStep
import Derived.ScopeJumps
namespace Go.Proofs.YtdecclklenaoaaaDoor
open Go.RowKit

theorem owns_mono8 {w : World} {b b' e n : Nat} {v : Value} {xs : List Value} (h : w.ownsRow b e 8 v n xs) (hb : b' ≤ b) : w.ownsRow b' e 8 v n xs :=
  ⟨h.1, h.2.imp (fun h => h) (fun ⟨g, cap, cur, h1, h2, h3⟩ => ⟨g, cap, cur, h1, Nat.le_trans hb h2, h3⟩)⟩
theorem wp_scope_again {P : Program} {a : Act} {w : World} {Q : Exit → Act → World → Prop} {c rest : Code} (l : Nat) (J : Act → World → Prop) (μ : Act → World → Nat) (hf : findLabel c l = some (Code.skip.seq rest))
    (pass : ∀ a w, J a w → rest.wp P (Exit.jump l (fun a' w' => J a' w' ∧ μ a' w' < μ a w) Q) a w)
    (first : (∀ a w, J a w → rest.wp P (Exit.jump l J Q) a w) → c.wp P (Exit.jump l J Q) a w) : (Code.scope c).wp P Q a w :=
  wp_scope_jumps l J μ hf (first (fun a w h => Code.wp_mono (fun e a' w' he => by
    cases e with
    | goto l' => exact ⟨he.1, he.2.1⟩
    | _ => exact he) (pass a w h))) (fun a w h => by
    apply wp_seq
    apply wp_skip
    exact pass a w h)
/-- What Take says. -/
def DTakeSays (w : World) (A B room now : Int) (o : Du.Out) (e : Ending) (V : World) : Prop :=
  ∃ g a1 c1 a2 c2 dr, e = .returned (.tuple #[.agg (dqList A B room (some ⟨g, 15, none⟩) 2 o.row now o.seed).toArray, pktVal (o.got.getD default), .bool o.got.isSome, dr, .int .i64 0]) ∧ Below w.heap.size w V ∧ V.cell? ⟨g, 15, none⟩ = some (.slice a1 o.xs.length c1) ∧ V.cell? ⟨g, 16, none⟩ = some (.slice a2 o.ys.length c2) ∧ RdT V a1 o.xs.length o.xs ∧ RdT V a2 o.ys.length o.ys ∧ OwnP V w.heap.size dr o.drops ∧ w.heap.size ≤ g
/-- The state at the label. -/
def TakeSt (w V : World) (A B room : Int) (la : Option Addr) (lc : Nat) (now : Int) (out : Du.Out) (g r : Nat) (xs ys : List Ea.Item) (row : Int) (s : Nat) (drops : List Ea.Pkt) : Prop :=
  PSt V (w.heap.size + 3) r g A B room la lc now xs ys row s drops ∧ Du.take A B now xs ys row s drops = out ∧ inT now xs ∧ inT now ys ∧ 0 ≤ row ∧ row ≤ 15 ∧ xs.length ≤ 500 ∧ drops.length + ys.length ≤ 500 ∧ Below w.heap.size w V ∧ Blk V (w.heap.size + 1) zeroDQ ∧ Blk V (w.heap.size + 1 + 1) (pktList default) ∧ ∃ p, Blk V r (pktList p)
/-- The frame at the label. -/
def TakeAct (b4 : Nat) (a : Act) (g r : Nat) : Prop := ∃ f : Nat → Value, a = { tmps := #[f 0, f 1, f 2, f 3, .pointer (some ⟨b4, 0, none⟩), .pointer (some ⟨b4 + 1, 0, none⟩), f 6, f 7, f 8, .pointer (some ⟨g, 0, none⟩), f 10, .pointer (some ⟨r, 0, none⟩), f 12, f 13, f 14, f 15, f 16, f 17, f 18, f 19, f 20, f 21, f 22, f 23, f 24, f 25, f 26, f 27, f 28, f 29, f 30, f 31, f 32, f 33, f 34, f 35, f 36, f 37, f 38, f 39, f 40, f 41, f 42, f 43, f 44, f 45, f 46, f 47, f 48, f 49, f 50, f 51, f 52, f 53, f 54, f 55, f 56, f 57, f 58, f 59, f 60, f 61, f 62, f 63, f 64, f 65, f 66, f 67, f 68, f 69, f 70, f 71, f 72, f 73, f 74, f 75, f 76, f 77, f 78, f 79, f 80, f 81, f 82, f 83, f 84, f 85, f 86, f 87, f 88, f 89, f 90, f 91, f 92, f 93], defers := [] }
theorem TakeAct.of {b4 : Nat} {tm : Array Value} {g r : Nat} (h : (let f := fun k => tm.getD k undef; tm = #[f 0, f 1, f 2, f 3, .pointer (some ⟨b4, 0, none⟩), .pointer (some ⟨b4 + 1, 0, none⟩), f 6, f 7, f 8, .pointer (some ⟨g, 0, none⟩), f 10, .pointer (some ⟨r, 0, none⟩), f 12, f 13, f 14, f 15, f 16, f 17, f 18, f 19, f 20, f 21, f 22, f 23, f 24, f 25, f 26, f 27, f 28, f 29, f 30, f 31, f 32, f 33, f 34, f 35, f 36, f 37, f 38, f 39, f 40, f 41, f 42, f 43, f 44, f 45, f 46, f 47, f 48, f 49, f 50, f 51, f 52, f 53, f 54, f 55, f 56, f 57, f 58, f 59, f 60, f 61, f 62, f 63, f 64, f 65, f 66, f 67, f 68, f 69, f 70, f 71, f 72, f 73, f 74, f 75, f 76, f 77, f 78, f 79, f 80, f 81, f 82, f 83, f 84, f 85, f 86, f 87, f 88, f 89, f 90, f 91, f 92, f 93])) : TakeAct b4 { tmps := tm, defers := [] } g r := ⟨fun k => tm.getD k undef, by simp only at h; exact congrArg (fun x => ({ tmps := x, defers := [] } : Act)) h⟩
def TakeJ (w : World) (A B room : Int) (la : Option Addr) (lc : Nat) (now : Int) (out : Du.Out) (a : Act) (V : World) : Prop :=
  ∃ g r xs ys row s drops, TakeAct (w.heap.size + 1) a g r ∧ TakeSt w V A B room la lc now out g r xs ys row s drops
def takeMu (a : Act) (V : World) : Nat := match a.tmps.getD 9 undef with
  | .pointer (some ad) => match V.cell? ⟨ad.block, 16, none⟩ with
    | some (.slice _ n _) => n
    | _ => 0
  | _ => 0
theorem takeMu_eq {tm : Array Value} {V : World} {g n c : Nat} {a : Option Addr} (h : tm.getD 9 undef = .pointer (some ⟨g, 0, none⟩)) (k : V.cell? ⟨g, 16, none⟩ = some (.slice a n c)) : takeMu { tmps := tm, defers := [] } V = n := by
  unfold takeMu
  simp only [h, k]
set_option maxRecDepth 100000 in
set_option maxHeartbeats 4000000 in
theorem take_yes (A B room : Int) (ab ao : Nat) (lc : Nat) (v0 v7 : Int) (s : Nat) (w : World) (a1 : Option Addr) (n1 c1 : Nat) (xs : List Ea.Item) (a2 : Option Addr) (n2 c2 : Nat) (ys : List Ea.Item) (hc1 : w.cell? ⟨ab, ao, none⟩ = some (.slice a1 n1 c1)) (hc2 : w.cell? ⟨ab, ao + 1, none⟩ = some (.slice a2 n2 c2)) (hr1 : RdQ w a1 n1 xs) (hr2 : RdQ w a2 n2 ys) (hq : Du.Ok A B room v0 v7 xs ys) (ht : Table w) (now : Int) (h0 : v7 ≤ now) (h1 : now ≤ 10000000) :
    Calls Tryd.prog 14 #[.agg #[.int .i64 6, .int .i64 A, .int .i64 B, .int .i64 0, .int .i64 room, .slice (some ⟨ab, ao, none⟩) 2 lc, .int .i64 v0, .int .i64 0, .int .i64 0, .int .i64 0, .int .i64 0, .int .i64 0, .int .i64 0, .int .i64 v7, .int .u64 (s : Int)], .int .i64 now] w (DTakeSays w A B room now (Du.take A B now xs ys v0 s [])) := by
  have hlt := World.block_lt_of_cell? _ _ hc1
  have HC1 := Lib.hid hc1
  have HC2 := Lib.hid hc2
  have HR1 := Lib.hid hr1
  have HR2 := Lib.hid hr2
  have HQ := Lib.hid hq
  have HT := Lib.hid ht
  clear hc1 hc2 hr1 hr2 hq ht
  obtain ⟨out, hout⟩ : ∃ o, Du.take A B now xs ys v0 s [] = o := ⟨_, rfl⟩
  rw [hout]
  have HOUT := Lib.hid hout
  clear hout
  have hmf : ∀ (fn : Fn) (first cap : Array Value) (w : World), (Instr.makeFunc fn first cap).run Tryd.prog w = .ok (.func fn first cap) w := fun _ _ _ _ => rfl
  have hq0 := HQ.out.b0
  have hq1 := HQ.out.b1
  go_enter Tryd.func14, Tryd.ntmps14
  go_wp2
  refine wp_scope_again 0 (TakeJ w A B room (some ⟨ab, ao, none⟩) lc now out) takeMu rfl ?pass ?first
  case first =>
    intro HREST
    go_wp2_with fail
    refine (dopen_yes A B room ab ao lc v0 v7 s _ a1 n1 c1 xs a2 n2 c2 ys (below_cell_of (below_new (below_new (below_new (Below.refl _ _) _) _) _) HC1.out) (below_cell_of (below_new (below_new (below_new (Below.refl _ _) _) _) _) HC2.out) (HR1.out.below (below_new (below_new (below_new (Below.refl _ _) _) _) _)) (HR2.out.below (below_new (below_new (below_new (Below.refl _ _) _) _) _)) HQ.out now h0 h1).mono ?_
    rintro e w2 ⟨g, g1, g2, rfl, hb2, hp2, ho1, ho2, hg, hg1, hg2, -⟩
    have e1 := HR1.out.1
    have e2 := HR2.out.1
    have hst : TakeSt w (w2.alloc (.cells zeroP.toArray 30)) A B room (some ⟨ab, ao, none⟩) lc now out g w2.heap.size xs ys v0 s [] := by
      have hz : (((w.alloc (.cells #[.int .i64 6, .int .i64 A, .int .i64 B, .int .i64 0, .int .i64 room, .slice (some ⟨ab, ao, none⟩) 2 lc, .int .i64 v0, .int .i64 0, .int .i64 0, .int .i64 0, .int .i64 0, .int .i64 0, .int .i64 0, .int .i64 v7, .int .u64 (s : Int)] 28)).alloc (.cells zeroDQ.toArray 28)).alloc (.cells zeroP.toArray 30)).heap.size = w.heap.size + 3 := by simp
      simp only [World.size_alloc] at hg
      have hn : Below w2.heap.size w2 (w2.alloc (.cells zeroP.toArray 30)) := below_new (Below.refl _ _) _
      have hl1 : LT w2 (w.heap.size + 3) w2.heap.size g (some ⟨g1, 0, none⟩) xs.length xs.length xs := by
        rw [e1]
        refine ⟨?_, Nat.le_refl _, by have := HQ.out.short; omega, fun ad e _ => ?_⟩
        · rcases Nat.eq_zero_or_pos n1 with h | h
          · exact rdT_nil h e1
          · exact OwnL.rdT (base := w.heap.size) (c := n1) (Or.inr ⟨h, owns_mono ho1 (by simp; omega)⟩)
        · injection e with e
          subst e
          have := ho1.lt g1 rfl
          simp only [World.size_alloc] at this
          exact ⟨by simp only; omega, this.2, hg1⟩
      have hl2 : LT w2 (w.heap.size + 3) w2.heap.size g (some ⟨g2, 0, none⟩) ys.length ys.length ys := by
        rw [e2]
        refine ⟨?_, Nat.le_refl _, by have := HQ.out.short; omega, fun ad e _ => ?_⟩
        · rcases Nat.eq_zero_or_pos n2 with h | h
          · exact rdT_nil h e2
          · exact OwnL.rdT (base := w.heap.size) (c := n2) (Or.inr ⟨h, owns_mono ho2 (by simp; omega)⟩)
        · injection e with e
          subst e
          have := ho2.lt g2 rfl
          simp only [World.size_alloc] at this
          exact ⟨by simp only; omega, this.2, hg2⟩
      rw [← e1, ← e2] at hp2
      have hB := below_on (below_new (below_new (below_new (Below.refl w.heap.size w) _) _) _) hb2
      refine ⟨⟨_, _, _, _, _, hp2.below hn, hl1.of (fun i _ hi _ => hn.block i hi), hl2.of (fun i _ hi _ => hn.block i hi), OwnP.nil _ _, by omega, hp2.lt, by simp⟩, HOUT.out, ?_, ?_, HQ.out.m0, HQ.out.m1, by have := HQ.out.short; omega, by have := HQ.out.short; simp; omega, below_on hB hn, ?_, ?_, default, Blk.new _ _ _⟩
      · exact fun i hi => ⟨(HQ.out.lx i hi).low, Int.le_trans (HQ.out.lx i hi).high h0⟩
      · exact fun i hi => ⟨(HQ.out.ly i hi).low, Int.le_trans (HQ.out.ly i hi).high h0⟩
      · exact (((blk_new_at (w.alloc _) zeroDQ.toArray 28 (by simp)).below (below_new (Below.refl _ _) _)).below hb2).below hn
      · exact ((blk_new_at ((w.alloc _).alloc _) zeroP.toArray 30 (by simp)).below hb2).below hn
    have HST := Lib.hid hst
    clear hst hb2 hp2 ho1 ho2 hg hg1 hg2 e1 e2
    go_wp2
    go_step3
    rename_i hk
    refine hk _ _ (HREST _ _ ?_)
    exact ⟨g, w2.heap.size, xs, ys, v0, s, [], TakeAct.of rfl, HST.out⟩
  case pass =>
    rintro a V ⟨g, r, xs, ys, row, s, drops, ⟨f, rfl⟩, hst⟩
    obtain ⟨hps, hta, tx, ty, m0, m1, lx, ld, hB, h4, h5, p, h11⟩ := hst
    obtain ⟨a1, c1, a2, c2, dr, hp, -, -, -, hlo, hgr, hr⟩ := id hps
    obtain ⟨n1, hn1⟩ : ∃ n, xs.length = n := ⟨_, rfl⟩
    obtain ⟨n2, hn2⟩ : ∃ n, ys.length = n := ⟨_, rfl⟩
    rw [hn1, hn2] at hp
    rw [hn1] at lx
    rw [hn2] at ld
    have k6 := hp.cell 6 rfl
    have k15 := hp.cell 15 rfl
    have k16 := hp.cell 16 rfl
    have lt := hp.lt
    have hmu : ∀ tm : Array Value, tm.getD 9 undef = .pointer (some ⟨g, 0, none⟩) → takeMu { tmps := tm, defers := [] } V = n2 := fun tm h => by unfold takeMu; simp only [h, k16]
    have hW : IntKind.i64.wrap ((n1 : Int) + (n2 : Int)) = (n1 : Int) + (n2 : Int) := by rw [IntKind.wrap_i64]; omega
    have HPS := Lib.hid hps
    have HTA := Lib.hid hta
    have HTX := Lib.hid tx
    have HTY := Lib.hid ty
    have HB := Lib.hid hB
    have HP := Lib.hid hp
    have H4 := Lib.hid h4
    have H5 := Lib.hid h5
    have H11 := Lib.hid h11
    have HMU := Lib.hid hmu
    have HL1 := Lib.hid hn1
    have HL2 := Lib.hid hn2
    clear hps hta tx ty hB hp h4 h5 h11 hmu hn1 hn2
    by_cases hA : n1 = 0 ∧ n2 = 0
    · obtain ⟨rfl, rfl⟩ := hA
      obtain rfl : xs = [] := List.eq_nil_of_length_eq_zero HL1.out
      obtain rfl : ys = [] := List.eq_nil_of_length_eq_zero HL2.out
      have f6 := HP.out.frozen ⟨g, 6, none⟩ rfl
      have hW0 : IntKind.i64.wrap 0 = 0 := by decide
      go_wp2
      go_quiet (fail)
      go_wp2
      obtain ⟨V2, hV2⟩ : ∃ V2, (V.drewN nq).setCell ⟨g, 6, none⟩ (.int .i64 0) = V2 := ⟨_, rfl⟩
      rw [hV2]
      have hgA : V.grownBy V2 (some g) := hV2 ▸ grown_trans (grown_drewN V _ _) (grown_set _ ⟨g, 6, none⟩ _)
      have HBZ := Lib.hid (below_grown HB.out hgA (fun k hk => by injection hk with hk; omega))
      have H4Z := Lib.hid (H4.out.kept hgA (by simp; omega))
      have H5Z := Lib.hid (H5.out.kept hgA (by simp; omega))
      have HPSZ : RowKit.Hid (PSt V2 (w.heap.size + 3) r g A B room (some ⟨ab, ao, none⟩) lc now [] [] 0 s drops) := Lib.hid (by
        obtain ⟨a1, c1, a2, c2, dr, hp, l1, l2, ho, hlo, hgr, hr⟩ := HPS.out
        refine ⟨a1, c1, a2, c2, dr, hV2 ▸ (blk_drewN hp nq).set 6 (.int .i64 0), l1.kept hgA hr (fun k hk => by injection hk with hk; omega), l2.kept hgA hr (fun k hk => by injection hk with hk; omega), ho.kept hgA ?_, hlo, hgr, Nat.lt_of_lt_of_le hr hgA.size⟩
        cases hd : dr.ownBlock with
        | none => exact Or.inl rfl
        | some j => exact Or.inr (fun e => by have := ho.low j hd; injection e with e; omega))
      have HTK : RowKit.Hid (Du.take A B now [] [] row s drops = ⟨[], [], 0, s, none, drops⟩) := Lib.hid (by rw [Du.take])
      have HP0 := HP.out
      clear hgA hV2 f6 k6 k15 k16 H4 H5 H11 hW0
      obtain ⟨a1', c1', a2', c2', dr1, hpz, hl1z, hl2z, hoz, -, -, hrz⟩ := HPSZ.out
      have HPZ := Lib.hid hpz
      have HL1Z := Lib.hid hl1z
      have HL2Z := Lib.hid hl2z
      have HOZ := Lib.hid hoz
      clear hpz hl1z hl2z hoz
      refine wp_region_held_drew (S := (fun V => V.cell? ⟨g, 18, none⟩ = some dr1)) (by kernel_rfl) ?_ (fun hHeld => ?_)
      · exact HPZ.out.cell 18 rfl
      refine wpAnyH_take (i := 0) (v := ?_) rfl (by kernel_rfl) (by kernel_rfl) (by kernel_rfl) (fun _ _ _ h => h) (Or.inl ⟨by rfl, ?_⟩) hHeld ?_
      rotate_left
      · intro wS hSw; obtain hS0 := hSw; go_simp; try with_reducible rfl
      try go_simp
      refine wpAnyH_take (i := 2) (v := ?_) rfl (by kernel_rfl) (by kernel_rfl) (by kernel_rfl) (fun _ _ _ h => h) (Or.inl ⟨by rfl, ?_⟩) hHeld ?_
      rotate_left
      · intro wS hSw; obtain hS0 := hSw; go_simp; try with_reducible rfl
      try go_simp
      refine wpAnyH_take (i := 3) (v := ?_) rfl (by kernel_rfl) (by kernel_rfl) (by kernel_rfl) (fun _ _ _ h => h) (Or.inl ⟨by rfl, ?_⟩) hHeld ?_
      rotate_left
      · intro wS hSw; obtain hS0 := hSw; go_simp; try with_reducible rfl
      try go_simp
      refine wpAnyH_take (i := 4) (v := ?_) rfl (by kernel_rfl) (by kernel_rfl) (by kernel_rfl) (fun _ _ _ h => h) (Or.inl ⟨by rfl, ?_⟩) hHeld ?_
      rotate_left
      · intro wS hSw; obtain hS0 := hSw; go_simp; try with_reducible rfl
      try go_simp
      refine wpAnyH_take (i := 5) (v := ?_) rfl (by kernel_rfl) (by kernel_rfl) (by kernel_rfl) (fun _ _ _ h => h) (Or.inl ⟨by rfl, ?_⟩) hHeld ?_
      rotate_left
      · intro wS hSw; obtain hS0 := hSw; go_simp; try with_reducible rfl
      try go_simp
      refine wpAnyH_take (i := 6) (v := ?_) rfl (by kernel_rfl) (by kernel_rfl) (by kernel_rfl) (fun _ _ _ h => h) (Or.inl ⟨by rfl, ?_⟩) hHeld ?_
      rotate_left
      · intro wS hSw; obtain hS0 := hSw; go_simp; try with_reducible rfl
      try go_simp
      refine wpAnyH_ready (rs := [1]) (by kernel_rfl) (by simp) ?_
      refine AllReadyH.cons rfl (fun K hK => ?_) AllReadyH.nil
      go_simp
      refine (close_any _ g A B room _ _ 0 now s _ _ now dr1 (HPZ.out.below (by repeat (first | exact Below.refl _ _ | refine below_drawnN ?_ _ | refine below_drawn ?_ | refine below_new ?_ _)))).mono ?_
      rintro e V3 ⟨rfl, hp3, hg3⟩
      have HP3 := Lib.hid hp3
      have HG3 : RowKit.Hid (World.grownBy V2 V3 (some g)) := Lib.hid (grown_trans (grown_drew _ _) hg3)
      clear hp3 hg3
      refine hK.out _ _ ?_ (fun hHeld => ?_)
      · exact HP3.out.cell 18 rfl
      clear hK K
      try go_simp
      refine wpAnyH_ready (rs := [7]) (by kernel_rfl) (by simp) ?_
      refine AllReadyH.cons rfl (fun K hK => ?_) AllReadyH.nil
      refine ready_store_blk (by rfl) _ 28 _ _ rfl (w.heap.size + 1) zeroDQ (dqList A B room (some ⟨g, 15, none⟩) 2 0 now s) rfl rfl (H4Z.out.kept HG3.out (by simp; omega)) (by kernel_rfl) rfl (dqList_one _ _ _ _ _ _ _ _) ?_
      intro V4 hq4 hg4
      refine hK.out _ _ ?_ (fun hHeld => ?_)
      · exact (HP3.out.kept hg4 (by simp; omega)).cell 18 rfl
      clear hK K
      try go_simp
      refine wpAnyH_ready (rs := [8]) (by kernel_rfl) (by simp) ?_
      refine AllReadyH.cons rfl (fun K hK => ?_) AllReadyH.nil
      refine ready_store_blk (by rfl) _ 30 _ _ rfl (w.heap.size + 1 + 1) (pktList default) (pktList default) rfl rfl ((H5Z.out.kept HG3.out (by simp; omega)).kept hg4 (by simp)) (by kernel_rfl) rfl (pktList_one _) ?_
      intro V5 hq5 hg5
      refine hK.out _ _ ?_ (fun hHeld => ?_)
      · exact ((HP3.out.kept hg4 (by simp; omega)).kept hg5 (by simp; omega)).cell 18 rfl
      clear hK K
      try go_simp
      refine wpAnyH_take (i := 9) (v := ?_) rfl (by kernel_rfl) (by kernel_rfl) (by kernel_rfl) (fun _ _ _ h => h) (Or.inl ⟨by rfl, ?_⟩) hHeld ?_
      rotate_left
      · intro wS hSw; obtain hS0 := hSw; go_simp; try with_reducible rfl
      try go_simp
      refine wpAnyH_take (i := 10) (v := ?_) rfl (by kernel_rfl) (by kernel_rfl) (by kernel_rfl) (fun _ _ _ h => h) (Or.inl ⟨by rfl, ?_⟩) hHeld ?_
      rotate_left
      · intro wS hSw; obtain hS0 := hSw; go_simp; try with_reducible rfl
      try go_simp
      refine wpAnyH_take (i := 11) (v := ?_) rfl (by kernel_rfl) (by kernel_rfl) (by kernel_rfl) (fun _ _ _ h => h) (Or.inl ⟨by rfl, ?_⟩) hHeld ?_
      rotate_left
      · intro wS hSw; obtain hS0 := hSw; go_simp; try with_reducible rfl
      try go_simp
      refine wpAnyH_done (by kernel_rfl) ?_ _
      go_wp2
      simp only [Exit.jump]
      refine bodyPost_ret (results_cc111 Tryd.results14 rfl rfl (run_loadVar_mid _ (w.heap.size + 1) 0 28 (dqList A B room (some ⟨g, 15, none⟩) 2 0 now s) _ (hq4.kept hg5 (by simp)).range Tryd.underlying28 rfl (by kernel_rfl)) (run_loadVar_mid _ (w.heap.size + 1 + 1) 0 30 (pktList default) _ hq5.range Tryd.underlying30 rfl (by kernel_rfl))) rfl ?_
      have hp5 := (HP3.out.kept hg4 (by simp; omega)).kept hg5 (by simp; omega)
      have hb5 := below_grown (below_grown (below_grown HBZ.out HG3.out (fun k hk => by injection hk with hk; omega)) hg4 (fun k hk => by injection hk with hk; omega)) hg5 (fun k hk => by injection hk with hk; omega)
      have hl1 := ((HL1Z.out.kept HG3.out (by omega) (fun k hk => by injection hk with hk; omega)).kept hg4 (by have := HG3.out.size; omega) (fun k hk => by injection hk with hk; omega)).kept hg5 (by have := HG3.out.size; have := hg4.size; omega) (fun k hk => by injection hk with hk; omega)
      have hl2 := ((HL2Z.out.kept HG3.out (by omega) (fun k hk => by injection hk with hk; omega)).kept hg4 (by have := HG3.out.size; omega) (fun k hk => by injection hk with hk; omega)).kept hg5 (by have := HG3.out.size; have := hg4.size; omega) (fun k hk => by injection hk with hk; omega)
      have apart : ∀ k, k ≤ r → dr1.ownBlock = none ∨ dr1.ownBlock ≠ some k := fun k hk => by
        cases hd : dr1.ownBlock with
        | none => exact Or.inl rfl
        | some j => exact Or.inr (fun e => by have := HOZ.out.low j hd; injection e with e; omega)
      have ho5 := ((HOZ.out.kept HG3.out (apart _ (by omega))).kept hg4 (apart _ (by omega))).kept hg5 (apart _ (by omega))
      rw [← HTA.out, HTK.out]
      exact ⟨g, _, _, _, _, dr1, rfl, hb5, hp5.cell 15 rfl, hp5.cell 16 rfl, hl1.1, hl2.1, owns_mono8 ho5 (by have := HB.out.size; omega), by omega⟩
    by_cases hB : n2 = 0
    · have hne : ((n1 : Int) + (n2 : Int) == 0) = false := by simp; omega
      have d1 : decide (0 < (n2 : Int)) = false := decide_eq_false (by omega)
      obtain ⟨x, xs, rfl⟩ : ∃ x l, xs = x :: l := by
        cases xs with
        | nil => exact absurd HL1.out (by simp; omega)
        | cons x l => exact ⟨x, l, rfl⟩
      go_wp2
      go_quiet (fail)
      go_wp2_with fail
      refine (first_step _ (w.heap.size + 3) r g A B room _ _ now x xs ys row s drops (HPS.out.kept (grown_drewN V _ none) (fun k e => by cases e)) hq0 hq1 m0 m1 (Or.inl (List.eq_nil_of_length_eq_zero (HL2.out.trans hB))) HTX.out HTY.out h1 (fun V' hg' => table_below HT.out (below_grown (below_drawnN HB.out _) hg' (fun k hk => by injection hk with hk; omega)))).mono ?_
      rintro e V1 ⟨p1, r1, s1, rfl, hg1, hps1, htk1⟩
      have hkp : Keep V V1 r g := Keep.of hr (grown_trans (grown_drewN V _ _) hg1)
      have HTK := Lib.hid htk1
      have HPS1 := Lib.hid hps1
      have HB1 := Lib.hid (hkp.below HB.out (by omega) hgr)
      have H41 := Lib.hid (hkp.blk (by omega) (by omega) H4.out)
      have H51 := Lib.hid (hkp.blk (by omega) (by omega) H5.out)
      have H111 := Lib.hid (hkp.blk (Nat.le_refl _) (by omega) H11.out)
      have hr1 := H111.out.lt
      clear hkp hps1 htk1 k6 k15 k16 H4 H5 H11
      clear hg1
      go_wp2_with (first | (refine wpList_store_blk rfl 30 _ _ rfl r (pktList p) (pktList p1) rfl rfl H111.out (by kernel_rfl) rfl (pktList_one _) ?_; intro V2 hp2 hg2; have HPSZ := Lib.hid (HPS1.out.kept hg2 (fun k e => Or.inr (by injection e with e; exact e.symm))); have HBZ := Lib.hid (below_grown HB1.out hg2 (fun k hk => by injection hk with hk; omega)); have H4Z := Lib.hid (H41.out.kept hg2 (by simp; omega)); have H5Z := Lib.hid (H51.out.kept hg2 (by simp; omega)); have H11Z := Lib.hid hp2; clear hp2 hg2 HPS1 HB1 H41 H51 H111))
      obtain ⟨a1', c1', a2', c2', dr1, hpz, hl1z, hl2z, hoz, -, -, hrz⟩ := HPSZ.out
      have HPZ := Lib.hid hpz
      have HL1Z := Lib.hid hl1z
      have HL2Z := Lib.hid hl2z
      have HOZ := Lib.hid hoz
      clear hpz hl1z hl2z hoz
      refine wp_region_held_drew (S := (fun V => V.cell? ⟨g, 18, none⟩ = some dr1 ∧ V.rangeAt r 0 (pktList p1))) (by kernel_rfl) ?_ (fun hHeld => ?_)
      · exact ⟨HPZ.out.cell 18 rfl, H11Z.out.range⟩
      refine wpAnyH_take (i := 2) (v := (.agg (pktList p1).toArray)) rfl (by kernel_rfl) (by kernel_rfl) (by kernel_rfl) (fun _ _ _ h => h) (yieldsIf_load_mid (by rfl) 30 _ rfl r 0 rfl (pktList p1) _ (fun _ h => h.2) Tryd.underlying30 rfl (by kernel_rfl)) hHeld ?_
      try go_simp
      refine wpAnyH_take (i := 0) (v := ?_) rfl (by kernel_rfl) (by kernel_rfl) (by kernel_rfl) (fun _ _ _ h => h) (Or.inl ⟨by rfl, ?_⟩) hHeld ?_
      rotate_left
      · intro wS hSw; obtain ⟨hS0, hS1⟩ := hSw; go_simp; try with_reducible rfl
      try go_simp
      refine wpAnyH_take (i := 3) (v := ?_) rfl (by kernel_rfl) (by kernel_rfl) (by kernel_rfl) (fun _ _ _ h => h) (Or.inl ⟨by rfl, ?_⟩) hHeld ?_
      rotate_left
      · intro wS hSw; obtain ⟨hS0, hS1⟩ := hSw; go_simp; try with_reducible rfl
      try go_simp
      refine wpAnyH_take (i := 4) (v := ?_) rfl (by kernel_rfl) (by kernel_rfl) (by kernel_rfl) (fun _ _ _ h => h) (Or.inl ⟨by rfl, ?_⟩) hHeld ?_
      rotate_left
      · intro wS hSw; obtain ⟨hS0, hS1⟩ := hSw; go_simp; try with_reducible rfl
      try go_simp
      refine wpAnyH_take (i := 5) (v := ?_) rfl (by kernel_rfl) (by kernel_rfl) (by kernel_rfl) (fun _ _ _ h => h) (Or.inl ⟨by rfl, ?_⟩) hHeld ?_
      rotate_left
      · intro wS hSw; obtain ⟨hS0, hS1⟩ := hSw; go_simp; try with_reducible rfl
      try go_simp
      refine wpAnyH_take (i := 6) (v := ?_) rfl (by kernel_rfl) (by kernel_rfl) (by kernel_rfl) (fun _ _ _ h => h) (Or.inl ⟨by rfl, ?_⟩) hHeld ?_
      rotate_left
      · intro wS hSw; obtain ⟨hS0, hS1⟩ := hSw; go_simp; try with_reducible rfl
      try go_simp
      refine wpAnyH_ready (rs := [1]) (by kernel_rfl) (by simp) ?_
      refine AllReadyH.cons rfl (fun K hK => ?_) AllReadyH.nil
      go_simp
      refine (close_any _ g A B room _ _ r1 now s1 _ _ now dr1 (HPZ.out.below (by repeat (first | exact Below.refl _ _ | refine below_drawnN ?_ _ | refine below_drawn ?_ | refine below_new ?_ _)))).mono ?_
      rintro e V3 ⟨rfl, hp3, hg3⟩
      have HP3 := Lib.hid hp3
      have HG3 : RowKit.Hid (World.grownBy V2 V3 (some g)) := Lib.hid (grown_trans (grown_drew _ _) hg3)
      clear hp3 hg3
      refine hK.out _ _ ?_ (fun hHeld => ?_)
      · exact ⟨HP3.out.cell 18 rfl, (H11Z.out.kept HG3.out (by simp; omega)).range⟩
      clear hK K
      try go_simp
      refine wpAnyH_ready (rs := [7]) (by kernel_rfl) (by simp) ?_
      refine AllReadyH.cons rfl (fun K hK => ?_) AllReadyH.nil
      refine ready_store_blk (by rfl) _ 28 _ _ rfl (w.heap.size + 1) zeroDQ (dqList A B room (some ⟨g, 15, none⟩) 2 r1 now s1) rfl rfl (H4Z.out.kept HG3.out (by simp; omega)) (by kernel_rfl) rfl (dqList_one _ _ _ _ _ _ _ _) ?_
      intro V4 hq4 hg4
      refine hK.out _ _ ?_ (fun hHeld => ?_)
      · exact ⟨(HP3.out.kept hg4 (by simp; omega)).cell 18 rfl, rangeAt_kept hHeld.2 hg4 (by simp; omega)⟩
      clear hK K
      try go_simp
      refine wpAnyH_ready (rs := [8]) (by kernel_rfl) (by simp) ?_
      refine AllReadyH.cons rfl (fun K hK => ?_) AllReadyH.nil
      refine ready_store_blk (by rfl) _ 30 _ _ rfl (w.heap.size + 1 + 1) (pktList default) (pktList p1) rfl rfl ((H5Z.out.kept HG3.out (by simp; omega)).kept hg4 (by simp)) (by kernel_rfl) rfl (pktList_one _) ?_
      intro V5 hq5 hg5
      refine hK.out _ _ ?_ (fun hHeld => ?_)
      · exact ⟨((HP3.out.kept hg4 (by simp; omega)).kept hg5 (by simp; omega)).cell 18 rfl, rangeAt_kept hHeld.2 hg5 (by simp; omega)⟩
      clear hK K
      try go_simp
      refine wpAnyH_take (i := 9) (v := ?_) rfl (by kernel_rfl) (by kernel_rfl) (by kernel_rfl) (fun _ _ _ h => h) (Or.inl ⟨by rfl, ?_⟩) hHeld ?_
      rotate_left
      · intro wS hSw; obtain ⟨hS0, hS1⟩ := hSw; go_simp; try with_reducible rfl
      try go_simp
      refine wpAnyH_take (i := 10) (v := ?_) rfl (by kernel_rfl) (by kernel_rfl) (by kernel_rfl) (fun _ _ _ h => h) (Or.inl ⟨by rfl, ?_⟩) hHeld ?_
      rotate_left
      · intro wS hSw; obtain ⟨hS0, hS1⟩ := hSw; go_simp; try with_reducible rfl
      try go_simp
      refine wpAnyH_take (i := 11) (v := ?_) rfl (by kernel_rfl) (by kernel_rfl) (by kernel_rfl) (fun _ _ _ h => h) (Or.inl ⟨by rfl, ?_⟩) hHeld ?_
      rotate_left
      · intro wS hSw; obtain ⟨hS0, hS1⟩ := hSw; go_simp; try with_reducible rfl
      try go_simp
      refine wpAnyH_done (by kernel_rfl) ?_ _
      go_wp2
      simp only [Exit.jump]
      refine bodyPost_ret (results_cc111 Tryd.results14 rfl rfl (run_loadVar_mid _ (w.heap.size + 1) 0 28 (dqList A B room (some ⟨g, 15, none⟩) 2 r1 now s1) _ (hq4.kept hg5 (by simp)).range Tryd.underlying28 rfl (by kernel_rfl)) (run_loadVar_mid _ (w.heap.size + 1 + 1) 0 30 (pktList p1) _ hq5.range Tryd.underlying30 rfl (by kernel_rfl))) rfl ?_
      have hp5 := (HP3.out.kept hg4 (by simp; omega)).kept hg5 (by simp; omega)
      have hb5 := below_grown (below_grown (below_grown HBZ.out HG3.out (fun k hk => by injection hk with hk; omega)) hg4 (fun k hk => by injection hk with hk; omega)) hg5 (fun k hk => by injection hk with hk; omega)
      have hl1 := ((HL1Z.out.kept HG3.out (by omega) (fun k hk => by injection hk with hk; omega)).kept hg4 (by have := HG3.out.size; omega) (fun k hk => by injection hk with hk; omega)).kept hg5 (by have := HG3.out.size; have := hg4.size; omega) (fun k hk => by injection hk with hk; omega)
      have hl2 := ((HL2Z.out.kept HG3.out (by omega) (fun k hk => by injection hk with hk; omega)).kept hg4 (by have := HG3.out.size; omega) (fun k hk => by injection hk with hk; omega)).kept hg5 (by have := HG3.out.size; have := hg4.size; omega) (fun k hk => by injection hk with hk; omega)
      have apart : ∀ k, k ≤ r → dr1.ownBlock = none ∨ dr1.ownBlock ≠ some k := fun k hk => by
        cases hd : dr1.ownBlock with
        | none => exact Or.inl rfl
        | some j => exact Or.inr (fun e => by have := HOZ.out.low j hd; injection e with e; omega)
      have ho5 := ((HOZ.out.kept HG3.out (apart _ (by omega))).kept hg4 (apart _ (by omega))).kept hg5 (apart _ (by omega))
      rw [← HTA.out, HTK.out]
      exact ⟨g, _, _, _, _, dr1, rfl, hb5, hp5.cell 15 rfl, hp5.cell 16 rfl, hl1.1, hl2.1, owns_mono8 ho5 (by have := HB.out.size; omega), by omega⟩
    have hne : ((n1 : Int) + (n2 : Int) == 0) = false := by simp; omega
    have d1 : decide (0 < (n2 : Int)) = true := decide_eq_true (by omega)
    by_cases hC : n1 = 0
    · have d2 : ((n1 : Int) == 0) = true := by simp; omega
      obtain ⟨y, ys, rfl⟩ : ∃ y l, ys = y :: l := by
        cases ys with
        | nil => exact absurd HL2.out (by simp; omega)
        | cons y l => exact ⟨y, l, rfl⟩
      go_wp2
      go_quiet (fail)
      go_wp2_with fail
      refine (second_step _ (w.heap.size + 3) r g A B room _ _ now xs y ys row s drops (HPS.out.kept (grown_drewN V _ none) (fun k e => by cases e)) hq0 hq1 (Or.inl (List.eq_nil_of_length_eq_zero (HL1.out.trans hC))) HTY.out h1 (by omega) (fun V' hg' => table_below HT.out (below_grown (below_drawnN HB.out _) hg' (fun k hk => by injection hk with hk; omega)))).mono ?_
      unfold SecondStep
      generalize Rand.nextSeed s = s1
      rintro e V1 ⟨hk1, ⟨rfl, hps1, htk1⟩ | ⟨rfl, hps1, htk1⟩⟩
      · have hkp : Keep V V1 r g := ⟨hk1.os, hk1.tape, hk1.output, hk1.size, hk1.block⟩
        have HTK := Lib.hid htk1
        have HPS1 := Lib.hid hps1
        have HB1 := Lib.hid (hkp.below HB.out (by omega) hgr)
        have H41 := Lib.hid (hkp.blk (by omega) (by omega) H4.out)
        have H51 := Lib.hid (hkp.blk (by omega) (by omega) H5.out)
        have H111 := Lib.hid (hkp.blk (Nat.le_refl _) (by omega) H11.out)
        have hr1 := H111.out.lt
        clear hkp hps1 htk1 k6 k15 k16 H4 H5 H11
        clear hk1
        go_wp2_with (first | (refine wpList_store_blk rfl 30 _ _ rfl r (pktList p) (pktList y.p) rfl rfl H111.out (by kernel_rfl) rfl (pktList_one _) ?_; intro V2 hp2 hg2; have HPSZ := Lib.hid (HPS1.out.kept hg2 (fun k e => Or.inr (by injection e with e; exact e.symm))); have HBZ := Lib.hid (below_grown HB1.out hg2 (fun k hk => by injection hk with hk; omega)); have H4Z := Lib.hid (H41.out.kept hg2 (by simp; omega)); have H5Z := Lib.hid (H51.out.kept hg2 (by simp; omega)); have H11Z := Lib.hid hp2; clear hp2 hg2 HPS1 HB1 H41 H51 H111))
        obtain ⟨a1', c1', a2', c2', dr1, hpz, hl1z, hl2z, hoz, -, -, hrz⟩ := HPSZ.out
        have HPZ := Lib.hid hpz
        have HL1Z := Lib.hid hl1z
        have HL2Z := Lib.hid hl2z
        have HOZ := Lib.hid hoz
        clear hpz hl1z hl2z hoz
        refine wp_region_held_drew (S := (fun V => V.cell? ⟨g, 18, none⟩ = some dr1 ∧ V.rangeAt r 0 (pktList y.p))) (by kernel_rfl) ?_ (fun hHeld => ?_)
        · exact ⟨HPZ.out.cell 18 rfl, H11Z.out.range⟩
        refine wpAnyH_take (i := 2) (v := (.agg (pktList y.p).toArray)) rfl (by kernel_rfl) (by kernel_rfl) (by kernel_rfl) (fun _ _ _ h => h) (yieldsIf_load_mid (by rfl) 30 _ rfl r 0 rfl (pktList y.p) _ (fun _ h => h.2) Tryd.underlying30 rfl (by kernel_rfl)) hHeld ?_
        try go_simp
        refine wpAnyH_take (i := 0) (v := ?_) rfl (by kernel_rfl) (by kernel_rfl) (by kernel_rfl) (fun _ _ _ h => h) (Or.inl ⟨by rfl, ?_⟩) hHeld ?_
        rotate_left
        · intro wS hSw; obtain ⟨hS0, hS1⟩ := hSw; go_simp; try with_reducible rfl
        try go_simp
        refine wpAnyH_take (i := 3) (v := ?_) rfl (by kernel_rfl) (by kernel_rfl) (by kernel_rfl) (fun _ _ _ h => h) (Or.inl ⟨by rfl, ?_⟩) hHeld ?_
        rotate_left
        · intro wS hSw; obtain ⟨hS0, hS1⟩ := hSw; go_simp; try with_reducible rfl
        try go_simp
        refine wpAnyH_take (i := 4) (v := ?_) rfl (by kernel_rfl) (by kernel_rfl) (by kernel_rfl) (fun _ _ _ h => h) (Or.inl ⟨by rfl, ?_⟩) hHeld ?_
        rotate_left
        · intro wS hSw; obtain ⟨hS0, hS1⟩ := hSw; go_simp; try with_reducible rfl
        try go_simp
        refine wpAnyH_take (i := 5) (v := ?_) rfl (by kernel_rfl) (by kernel_rfl) (by kernel_rfl) (fun _ _ _ h => h) (Or.inl ⟨by rfl, ?_⟩) hHeld ?_
        rotate_left
        · intro wS hSw; obtain ⟨hS0, hS1⟩ := hSw; go_simp; try with_reducible rfl
        try go_simp
        refine wpAnyH_take (i := 6) (v := ?_) rfl (by kernel_rfl) (by kernel_rfl) (by kernel_rfl) (fun _ _ _ h => h) (Or.inl ⟨by rfl, ?_⟩) hHeld ?_
        rotate_left
        · intro wS hSw; obtain ⟨hS0, hS1⟩ := hSw; go_simp; try with_reducible rfl
        try go_simp
        refine wpAnyH_ready (rs := [1]) (by kernel_rfl) (by simp) ?_
        refine AllReadyH.cons rfl (fun K hK => ?_) AllReadyH.nil
        go_simp
        refine (close_any _ g A B room _ _ 0 now s1 _ _ now dr1 (HPZ.out.below (by repeat (first | exact Below.refl _ _ | refine below_drawnN ?_ _ | refine below_drawn ?_ | refine below_new ?_ _)))).mono ?_
        rintro e V3 ⟨rfl, hp3, hg3⟩
        have HP3 := Lib.hid hp3
        have HG3 : RowKit.Hid (World.grownBy V2 V3 (some g)) := Lib.hid (grown_trans (grown_drew _ _) hg3)
        clear hp3 hg3
        refine hK.out _ _ ?_ (fun hHeld => ?_)
        · exact ⟨HP3.out.cell 18 rfl, (H11Z.out.kept HG3.out (by simp; omega)).range⟩
        clear hK K
        try go_simp
        refine wpAnyH_ready (rs := [7]) (by kernel_rfl) (by simp) ?_
        refine AllReadyH.cons rfl (fun K hK => ?_) AllReadyH.nil
        refine ready_store_blk (by rfl) _ 28 _ _ rfl (w.heap.size + 1) zeroDQ (dqList A B room (some ⟨g, 15, none⟩) 2 0 now s1) rfl rfl (H4Z.out.kept HG3.out (by simp; omega)) (by kernel_rfl) rfl (dqList_one _ _ _ _ _ _ _ _) ?_
        intro V4 hq4 hg4
        refine hK.out _ _ ?_ (fun hHeld => ?_)
        · exact ⟨(HP3.out.kept hg4 (by simp; omega)).cell 18 rfl, rangeAt_kept hHeld.2 hg4 (by simp; omega)⟩
        clear hK K
        try go_simp
        refine wpAnyH_ready (rs := [8]) (by kernel_rfl) (by simp) ?_
        refine AllReadyH.cons rfl (fun K hK => ?_) AllReadyH.nil
        refine ready_store_blk (by rfl) _ 30 _ _ rfl (w.heap.size + 1 + 1) (pktList default) (pktList y.p) rfl rfl ((H5Z.out.kept HG3.out (by simp; omega)).kept hg4 (by simp)) (by kernel_rfl) rfl (pktList_one _) ?_
        intro V5 hq5 hg5
        refine hK.out _ _ ?_ (fun hHeld => ?_)
        · exact ⟨((HP3.out.kept hg4 (by simp; omega)).kept hg5 (by simp; omega)).cell 18 rfl, rangeAt_kept hHeld.2 hg5 (by simp; omega)⟩
        clear hK K
        try go_simp
        refine wpAnyH_take (i := 9) (v := ?_) rfl (by kernel_rfl) (by kernel_rfl) (by kernel_rfl) (fun _ _ _ h => h) (Or.inl ⟨by rfl, ?_⟩) hHeld ?_
        rotate_left
        · intro wS hSw; obtain ⟨hS0, hS1⟩ := hSw; go_simp; try with_reducible rfl
        try go_simp
        refine wpAnyH_take (i := 10) (v := ?_) rfl (by kernel_rfl) (by kernel_rfl) (by kernel_rfl) (fun _ _ _ h => h) (Or.inl ⟨by rfl, ?_⟩) hHeld ?_
        rotate_left
        · intro wS hSw; obtain ⟨hS0, hS1⟩ := hSw; go_simp; try with_reducible rfl
        try go_simp
        refine wpAnyH_take (i := 11) (v := ?_) rfl (by kernel_rfl) (by kernel_rfl) (by kernel_rfl) (fun _ _ _ h => h) (Or.inl ⟨by rfl, ?_⟩) hHeld ?_
        rotate_left
        · intro wS hSw; obtain ⟨hS0, hS1⟩ := hSw; go_simp; try with_reducible rfl
        try go_simp
        refine wpAnyH_done (by kernel_rfl) ?_ _
        go_wp2
        simp only [Exit.jump]
        refine bodyPost_ret (results_cc111 Tryd.results14 rfl rfl (run_loadVar_mid _ (w.heap.size + 1) 0 28 (dqList A B room (some ⟨g, 15, none⟩) 2 0 now s1) _ (hq4.kept hg5 (by simp)).range Tryd.underlying28 rfl (by kernel_rfl)) (run_loadVar_mid _ (w.heap.size + 1 + 1) 0 30 (pktList y.p) _ hq5.range Tryd.underlying30 rfl (by kernel_rfl))) rfl ?_
        have hp5 := (HP3.out.kept hg4 (by simp; omega)).kept hg5 (by simp; omega)
        have hb5 := below_grown (below_grown (below_grown HBZ.out HG3.out (fun k hk => by injection hk with hk; omega)) hg4 (fun k hk => by injection hk with hk; omega)) hg5 (fun k hk => by injection hk with hk; omega)
        have hl1 := ((HL1Z.out.kept HG3.out (by omega) (fun k hk => by injection hk with hk; omega)).kept hg4 (by have := HG3.out.size; omega) (fun k hk => by injection hk with hk; omega)).kept hg5 (by have := HG3.out.size; have := hg4.size; omega) (fun k hk => by injection hk with hk; omega)
        have hl2 := ((HL2Z.out.kept HG3.out (by omega) (fun k hk => by injection hk with hk; omega)).kept hg4 (by have := HG3.out.size; omega) (fun k hk => by injection hk with hk; omega)).kept hg5 (by have := HG3.out.size; have := hg4.size; omega) (fun k hk => by injection hk with hk; omega)
        have apart : ∀ k, k ≤ r → dr1.ownBlock = none ∨ dr1.ownBlock ≠ some k := fun k hk => by
          cases hd : dr1.ownBlock with
          | none => exact Or.inl rfl
          | some j => exact Or.inr (fun e => by have := HOZ.out.low j hd; injection e with e; omega)
        have ho5 := ((HOZ.out.kept HG3.out (apart _ (by omega))).kept hg4 (apart _ (by omega))).kept hg5 (apart _ (by omega))
        rw [← HTA.out, HTK.out]
        exact ⟨g, _, _, _, _, dr1, rfl, hb5, hp5.cell 15 rfl, hp5.cell 16 rfl, hl1.1, hl2.1, owns_mono8 ho5 (by have := HB.out.size; omega), by omega⟩
      · have hkp : Keep V V1 r g := ⟨hk1.os, hk1.tape, hk1.output, hk1.size, hk1.block⟩
        have HTK := Lib.hid htk1
        have HPS1 := Lib.hid hps1
        have HB1 := Lib.hid (hkp.below HB.out (by omega) hgr)
        have H41 := Lib.hid (hkp.blk (by omega) (by omega) H4.out)
        have H51 := Lib.hid (hkp.blk (by omega) (by omega) H5.out)
        have H111 := Lib.hid (hkp.blk (Nat.le_refl _) (by omega) H11.out)
        have hr1 := H111.out.lt
        clear hkp hps1 htk1 k6 k15 k16 H4 H5 H11
        clear hk1
        go_wp2_with (first | (refine wpList_store_blk rfl 30 _ _ rfl r (pktList p) (pktList default) rfl rfl H111.out (by kernel_rfl) rfl (pktList_one _) ?_; intro V2 hp2 hg2; have HPSZ := Lib.hid (HPS1.out.kept hg2 (fun k e => Or.inr (by injection e with e; exact e.symm))); have HBZ := Lib.hid (below_grown HB1.out hg2 (fun k hk => by injection hk with hk; omega)); have H4Z := Lib.hid (H41.out.kept hg2 (by simp; omega)); have H5Z := Lib.hid (H51.out.kept hg2 (by simp; omega)); have H11Z := Lib.hid hp2; clear hp2 hg2 HPS1 HB1 H41 H51 H111))
        go_step3
        have hln : ys.length + 1 = n2 := by have := HL2.out; rwa [List.length_cons] at this
        have hst : TakeSt w V2 A B room _ _ now out g r xs ys 0 s1 (drops ++ [y.p]) := ⟨HPSZ.out, HTK.out.symm.trans HTA.out, HTX.out, HTY.out.tail, by omega, by omega, by rw [HL1.out]; exact lx, by rw [List.length_append]; simp only [List.length_cons, List.length_nil]; omega, HBZ.out, H4Z.out, H5Z.out, default, H11Z.out⟩
        obtain ⟨a1', c1', a2', c2', dr1, hpz, -⟩ := HPSZ.out
        exact ⟨rfl, ⟨g, r, xs, ys, 0, s1, drops ++ [y.p], TakeAct.of rfl, hst⟩, Nat.lt_of_le_of_lt (Nat.le_of_eq (takeMu_eq rfl (hpz.cell 16 rfl))) (Nat.lt_of_lt_of_le (by omega) (Nat.le_of_eq (HMU.out _ rfl).symm))⟩
    have d2 : ((n1 : Int) == 0) = false := by simp; omega
    by_cases hD : row < 15
    · have d3 : decide (15 ≤ row) = false := decide_eq_false (by omega)
      obtain ⟨x, xs, rfl⟩ : ∃ x l, xs = x :: l := by
        cases xs with
        | nil => exact absurd HL1.out (by simp; omega)
        | cons x l => exact ⟨x, l, rfl⟩
      go_wp2
      go_quiet (fail)
      go_wp2_with fail
      refine (first_step _ (w.heap.size + 3) r g A B room _ _ now x xs ys row s drops (HPS.out.kept (grown_drewN V _ none) (fun k e => by cases e)) hq0 hq1 m0 m1 (Or.inr hD) HTX.out HTY.out h1 (fun V' hg' => table_below HT.out (below_grown (below_drawnN HB.out _) hg' (fun k hk => by injection hk with hk; omega)))).mono ?_
      rintro e V1 ⟨p1, r1, s1, rfl, hg1, hps1, htk1⟩
      have hkp : Keep V V1 r g := Keep.of hr (grown_trans (grown_drewN V _ _) hg1)
      have HTK := Lib.hid htk1
      have HPS1 := Lib.hid hps1
      have HB1 := Lib.hid (hkp.below HB.out (by omega) hgr)
      have H41 := Lib.hid (hkp.blk (by omega) (by omega) H4.out)
      have H51 := Lib.hid (hkp.blk (by omega) (by omega) H5.out)
      have H111 := Lib.hid (hkp.blk (Nat.le_refl _) (by omega) H11.out)
      have hr1 := H111.out.lt
      clear hkp hps1 htk1 k6 k15 k16 H4 H5 H11
      clear hg1
      go_wp2_with (first | (refine wpList_store_blk rfl 30 _ _ rfl r (pktList p) (pktList p1) rfl rfl H111.out (by kernel_rfl) rfl (pktList_one _) ?_; intro V2 hp2 hg2; have HPSZ := Lib.hid (HPS1.out.kept hg2 (fun k e => Or.inr (by injection e with e; exact e.symm))); have HBZ := Lib.hid (below_grown HB1.out hg2 (fun k hk => by injection hk with hk; omega)); have H4Z := Lib.hid (H41.out.kept hg2 (by simp; omega)); have H5Z := Lib.hid (H51.out.kept hg2 (by simp; omega)); have H11Z := Lib.hid hp2; clear hp2 hg2 HPS1 HB1 H41 H51 H111))
      obtain ⟨a1', c1', a2', c2', dr1, hpz, hl1z, hl2z, hoz, -, -, hrz⟩ := HPSZ.out
      have HPZ := Lib.hid hpz
      have HL1Z := Lib.hid hl1z
      have HL2Z := Lib.hid hl2z
      have HOZ := Lib.hid hoz
      clear hpz hl1z hl2z hoz
      refine wp_region_held_drew (S := (fun V => V.cell? ⟨g, 18, none⟩ = some dr1 ∧ V.rangeAt r 0 (pktList p1))) (by kernel_rfl) ?_ (fun hHeld => ?_)
      · exact ⟨HPZ.out.cell 18 rfl, H11Z.out.range⟩
      refine wpAnyH_take (i := 2) (v := (.agg (pktList p1).toArray)) rfl (by kernel_rfl) (by kernel_rfl) (by kernel_rfl) (fun _ _ _ h => h) (yieldsIf_load_mid (by rfl) 30 _ rfl r 0 rfl (pktList p1) _ (fun _ h => h.2) Tryd.underlying30 rfl (by kernel_rfl)) hHeld ?_
      try go_simp
      refine wpAnyH_take (i := 0) (v := ?_) rfl (by kernel_rfl) (by kernel_rfl) (by kernel_rfl) (fun _ _ _ h => h) (Or.inl ⟨by rfl, ?_⟩) hHeld ?_
      rotate_left
      · intro wS hSw; obtain ⟨hS0, hS1⟩ := hSw; go_simp; try with_reducible rfl
      try go_simp
      refine wpAnyH_take (i := 3) (v := ?_) rfl (by kernel_rfl) (by kernel_rfl) (by kernel_rfl) (fun _ _ _ h => h) (Or.inl ⟨by rfl, ?_⟩) hHeld ?_
      rotate_left
      · intro wS hSw; obtain ⟨hS0, hS1⟩ := hSw; go_simp; try with_reducible rfl
      try go_simp
      refine wpAnyH_take (i := 4) (v := ?_) rfl (by kernel_rfl) (by kernel_rfl) (by kernel_rfl) (fun _ _ _ h => h) (Or.inl ⟨by rfl, ?_⟩) hHeld ?_
      rotate_left
      · intro wS hSw; obtain ⟨hS0, hS1⟩ := hSw; go_simp; try with_reducible rfl
      try go_simp
      refine wpAnyH_take (i := 5) (v := ?_) rfl (by kernel_rfl) (by kernel_rfl) (by kernel_rfl) (fun _ _ _ h => h) (Or.inl ⟨by rfl, ?_⟩) hHeld ?_
      rotate_left
      · intro wS hSw; obtain ⟨hS0, hS1⟩ := hSw; go_simp; try with_reducible rfl
      try go_simp
      refine wpAnyH_take (i := 6) (v := ?_) rfl (by kernel_rfl) (by kernel_rfl) (by kernel_rfl) (fun _ _ _ h => h) (Or.inl ⟨by rfl, ?_⟩) hHeld ?_
      rotate_left
      · intro wS hSw; obtain ⟨hS0, hS1⟩ := hSw; go_simp; try with_reducible rfl
      try go_simp
      refine wpAnyH_ready (rs := [1]) (by kernel_rfl) (by simp) ?_
      refine AllReadyH.cons rfl (fun K hK => ?_) AllReadyH.nil
      go_simp
      refine (close_any _ g A B room _ _ r1 now s1 _ _ now dr1 (HPZ.out.below (by repeat (first | exact Below.refl _ _ | refine below_drawnN ?_ _ | refine below_drawn ?_ | refine below_new ?_ _)))).mono ?_
      rintro e V3 ⟨rfl, hp3, hg3⟩
      have HP3 := Lib.hid hp3
      have HG3 : RowKit.Hid (World.grownBy V2 V3 (some g)) := Lib.hid (grown_trans (grown_drew _ _) hg3)
      clear hp3 hg3
      refine hK.out _ _ ?_ (fun hHeld => ?_)
      · exact ⟨HP3.out.cell 18 rfl, (H11Z.out.kept HG3.out (by simp; omega)).range⟩
      clear hK K
      try go_simp
      refine wpAnyH_ready (rs := [7]) (by kernel_rfl) (by simp) ?_
      refine AllReadyH.cons rfl (fun K hK => ?_) AllReadyH.nil
      refine ready_store_blk (by rfl) _ 28 _ _ rfl (w.heap.size + 1) zeroDQ (dqList A B room (some ⟨g, 15, none⟩) 2 r1 now s1) rfl rfl (H4Z.out.kept HG3.out (by simp; omega)) (by kernel_rfl) rfl (dqList_one _ _ _ _ _ _ _ _) ?_
      intro V4 hq4 hg4
      refine hK.out _ _ ?_ (fun hHeld => ?_)
      · exact ⟨(HP3.out.kept hg4 (by simp; omega)).cell 18 rfl, rangeAt_kept hHeld.2 hg4 (by simp; omega)⟩
      clear hK K
      try go_simp
      refine wpAnyH_ready (rs := [8]) (by kernel_rfl) (by simp) ?_
      refine AllReadyH.cons rfl (fun K hK => ?_) AllReadyH.nil
      refine ready_store_blk (by rfl) _ 30 _ _ rfl (w.heap.size + 1 + 1) (pktList default) (pktList p1) rfl rfl ((H5Z.out.kept HG3.out (by simp; omega)).kept hg4 (by simp)) (by kernel_rfl) rfl (pktList_one _) ?_
      intro V5 hq5 hg5
      refine hK.out _ _ ?_ (fun hHeld => ?_)
      · exact ⟨((HP3.out.kept hg4 (by simp; omega)).kept hg5 (by simp; omega)).cell 18 rfl, rangeAt_kept hHeld.2 hg5 (by simp; omega)⟩
      clear hK K
      try go_simp
      refine wpAnyH_take (i := 9) (v := ?_) rfl (by kernel_rfl) (by kernel_rfl) (by kernel_rfl) (fun _ _ _ h => h) (Or.inl ⟨by rfl, ?_⟩) hHeld ?_
      rotate_left
      · intro wS hSw; obtain ⟨hS0, hS1⟩ := hSw; go_simp; try with_reducible rfl
      try go_simp
      refine wpAnyH_take (i := 10) (v := ?_) rfl (by kernel_rfl) (by kernel_rfl) (by kernel_rfl) (fun _ _ _ h => h) (Or.inl ⟨by rfl, ?_⟩) hHeld ?_
      rotate_left
      · intro wS hSw; obtain ⟨hS0, hS1⟩ := hSw; go_simp; try with_reducible rfl
      try go_simp
      refine wpAnyH_take (i := 11) (v := ?_) rfl (by kernel_rfl) (by kernel_rfl) (by kernel_rfl) (fun _ _ _ h => h) (Or.inl ⟨by rfl, ?_⟩) hHeld ?_
      rotate_left
      · intro wS hSw; obtain ⟨hS0, hS1⟩ := hSw; go_simp; try with_reducible rfl
      try go_simp
      refine wpAnyH_done (by kernel_rfl) ?_ _
      go_wp2
      simp only [Exit.jump]
      refine bodyPost_ret (results_cc111 Tryd.results14 rfl rfl (run_loadVar_mid _ (w.heap.size + 1) 0 28 (dqList A B room (some ⟨g, 15, none⟩) 2 r1 now s1) _ (hq4.kept hg5 (by simp)).range Tryd.underlying28 rfl (by kernel_rfl)) (run_loadVar_mid _ (w.heap.size + 1 + 1) 0 30 (pktList p1) _ hq5.range Tryd.underlying30 rfl (by kernel_rfl))) rfl ?_
      have hp5 := (HP3.out.kept hg4 (by simp; omega)).kept hg5 (by simp; omega)
      have hb5 := below_grown (below_grown (below_grown HBZ.out HG3.out (fun k hk => by injection hk with hk; omega)) hg4 (fun k hk => by injection hk with hk; omega)) hg5 (fun k hk => by injection hk with hk; omega)
      have hl1 := ((HL1Z.out.kept HG3.out (by omega) (fun k hk => by injection hk with hk; omega)).kept hg4 (by have := HG3.out.size; omega) (fun k hk => by injection hk with hk; omega)).kept hg5 (by have := HG3.out.size; have := hg4.size; omega) (fun k hk => by injection hk with hk; omega)
      have hl2 := ((HL2Z.out.kept HG3.out (by omega) (fun k hk => by injection hk with hk; omega)).kept hg4 (by have := HG3.out.size; omega) (fun k hk => by injection hk with hk; omega)).kept hg5 (by have := HG3.out.size; have := hg4.size; omega) (fun k hk => by injection hk with hk; omega)
      have apart : ∀ k, k ≤ r → dr1.ownBlock = none ∨ dr1.ownBlock ≠ some k := fun k hk => by
        cases hd : dr1.ownBlock with
        | none => exact Or.inl rfl
        | some j => exact Or.inr (fun e => by have := HOZ.out.low j hd; injection e with e; omega)
      have ho5 := ((HOZ.out.kept HG3.out (apart _ (by omega))).kept hg4 (apart _ (by omega))).kept hg5 (apart _ (by omega))
      rw [← HTA.out, HTK.out]
      exact ⟨g, _, _, _, _, dr1, rfl, hb5, hp5.cell 15 rfl, hp5.cell 16 rfl, hl1.1, hl2.1, owns_mono8 ho5 (by have := HB.out.size; omega), by omega⟩
    have d3 : decide (15 ≤ row) = true := decide_eq_true (by omega)
    obtain ⟨y, ys, rfl⟩ : ∃ y l, ys = y :: l := by
      cases ys with
      | nil => exact absurd HL2.out (by simp; omega)
      | cons y l => exact ⟨y, l, rfl⟩
    go_wp2
    go_quiet (fail)
    go_wp2_with fail
    refine (second_step _ (w.heap.size + 3) r g A B room _ _ now xs y ys row s drops (HPS.out.kept (grown_drewN V _ none) (fun k e => by cases e)) hq0 hq1 (Or.inr (by omega)) HTY.out h1 (by omega) (fun V' hg' => table_below HT.out (below_grown (below_drawnN HB.out _) hg' (fun k hk => by injection hk with hk; omega)))).mono ?_
    unfold SecondStep
    generalize Rand.nextSeed s = s1
    rintro e V1 ⟨hk1, ⟨rfl, hps1, htk1⟩ | ⟨rfl, hps1, htk1⟩⟩
    · have hkp : Keep V V1 r g := ⟨hk1.os, hk1.tape, hk1.output, hk1.size, hk1.block⟩
      have HTK := Lib.hid htk1
      have HPS1 := Lib.hid hps1
      have HB1 := Lib.hid (hkp.below HB.out (by omega) hgr)
      have H41 := Lib.hid (hkp.blk (by omega) (by omega) H4.out)
      have H51 := Lib.hid (hkp.blk (by omega) (by omega) H5.out)
      have H111 := Lib.hid (hkp.blk (Nat.le_refl _) (by omega) H11.out)
      have hr1 := H111.out.lt
      clear hkp hps1 htk1 k6 k15 k16 H4 H5 H11
      clear hk1
      go_wp2_with (first | (refine wpList_store_blk rfl 30 _ _ rfl r (pktList p) (pktList y.p) rfl rfl H111.out (by kernel_rfl) rfl (pktList_one _) ?_; intro V2 hp2 hg2; have HPSZ := Lib.hid (HPS1.out.kept hg2 (fun k e => Or.inr (by injection e with e; exact e.symm))); have HBZ := Lib.hid (below_grown HB1.out hg2 (fun k hk => by injection hk with hk; omega)); have H4Z := Lib.hid (H41.out.kept hg2 (by simp; omega)); have H5Z := Lib.hid (H51.out.kept hg2 (by simp; omega)); have H11Z := Lib.hid hp2; clear hp2 hg2 HPS1 HB1 H41 H51 H111))
      obtain ⟨a1', c1', a2', c2', dr1, hpz, hl1z, hl2z, hoz, -, -, hrz⟩ := HPSZ.out
      have HPZ := Lib.hid hpz
      have HL1Z := Lib.hid hl1z
      have HL2Z := Lib.hid hl2z
      have HOZ := Lib.hid hoz
      clear hpz hl1z hl2z hoz
      refine wp_region_held_drew (S := (fun V => V.cell? ⟨g, 18, none⟩ = some dr1 ∧ V.rangeAt r 0 (pktList y.p))) (by kernel_rfl) ?_ (fun hHeld => ?_)
      · exact ⟨HPZ.out.cell 18 rfl, H11Z.out.range⟩
      refine wpAnyH_take (i := 2) (v := (.agg (pktList y.p).toArray)) rfl (by kernel_rfl) (by kernel_rfl) (by kernel_rfl) (fun _ _ _ h => h) (yieldsIf_load_mid (by rfl) 30 _ rfl r 0 rfl (pktList y.p) _ (fun _ h => h.2) Tryd.underlying30 rfl (by kernel_rfl)) hHeld ?_
      try go_simp
      refine wpAnyH_take (i := 0) (v := ?_) rfl (by kernel_rfl) (by kernel_rfl) (by kernel_rfl) (fun _ _ _ h => h) (Or.inl ⟨by rfl, ?_⟩) hHeld ?_
      rotate_left
      · intro wS hSw; obtain ⟨hS0, hS1⟩ := hSw; go_simp; try with_reducible rfl
      try go_simp
      refine wpAnyH_take (i := 3) (v := ?_) rfl (by kernel_rfl) (by kernel_rfl) (by kernel_rfl) (fun _ _ _ h => h) (Or.inl ⟨by rfl, ?_⟩) hHeld ?_
      rotate_left
      · intro wS hSw; obtain ⟨hS0, hS1⟩ := hSw; go_simp; try with_reducible rfl
      try go_simp
      refine wpAnyH_take (i := 4) (v := ?_) rfl (by kernel_rfl) (by kernel_rfl) (by kernel_rfl) (fun _ _ _ h => h) (Or.inl ⟨by rfl, ?_⟩) hHeld ?_
      rotate_left
      · intro wS hSw; obtain ⟨hS0, hS1⟩ := hSw; go_simp; try with_reducible rfl
      try go_simp
      refine wpAnyH_take (i := 5) (v := ?_) rfl (by kernel_rfl) (by kernel_rfl) (by kernel_rfl) (fun _ _ _ h => h) (Or.inl ⟨by rfl, ?_⟩) hHeld ?_
      rotate_left
      · intro wS hSw; obtain ⟨hS0, hS1⟩ := hSw; go_simp; try with_reducible rfl
      try go_simp
      refine wpAnyH_take (i := 6) (v := ?_) rfl (by kernel_rfl) (by kernel_rfl) (by kernel_rfl) (fun _ _ _ h => h) (Or.inl ⟨by rfl, ?_⟩) hHeld ?_
      rotate_left
      · intro wS hSw; obtain ⟨hS0, hS1⟩ := hSw; go_simp; try with_reducible rfl
      try go_simp
      refine wpAnyH_ready (rs := [1]) (by kernel_rfl) (by simp) ?_
      refine AllReadyH.cons rfl (fun K hK => ?_) AllReadyH.nil
      go_simp
      refine (close_any _ g A B room _ _ 0 now s1 _ _ now dr1 (HPZ.out.below (by repeat (first | exact Below.refl _ _ | refine below_drawnN ?_ _ | refine below_drawn ?_ | refine below_new ?_ _)))).mono ?_
      rintro e V3 ⟨rfl, hp3, hg3⟩
      have HP3 := Lib.hid hp3
      have HG3 : RowKit.Hid (World.grownBy V2 V3 (some g)) := Lib.hid (grown_trans (grown_drew _ _) hg3)
      clear hp3 hg3
      refine hK.out _ _ ?_ (fun hHeld => ?_)
      · exact ⟨HP3.out.cell 18 rfl, (H11Z.out.kept HG3.out (by simp; omega)).range⟩
      clear hK K
      try go_simp
      refine wpAnyH_ready (rs := [7]) (by kernel_rfl) (by simp) ?_
      refine AllReadyH.cons rfl (fun K hK => ?_) AllReadyH.nil
      refine ready_store_blk (by rfl) _ 28 _ _ rfl (w.heap.size + 1) zeroDQ (dqList A B room (some ⟨g, 15, none⟩) 2 0 now s1) rfl rfl (H4Z.out.kept HG3.out (by simp; omega)) (by kernel_rfl) rfl (dqList_one _ _ _ _ _ _ _ _) ?_
      intro V4 hq4 hg4
      refine hK.out _ _ ?_ (fun hHeld => ?_)
      · exact ⟨(HP3.out.kept hg4 (by simp; omega)).cell 18 rfl, rangeAt_kept hHeld.2 hg4 (by simp; omega)⟩
      clear hK K
      try go_simp
      refine wpAnyH_ready (rs := [8]) (by kernel_rfl) (by simp) ?_
      refine AllReadyH.cons rfl (fun K hK => ?_) AllReadyH.nil
      refine ready_store_blk (by rfl) _ 30 _ _ rfl (w.heap.size + 1 + 1) (pktList default) (pktList y.p) rfl rfl ((H5Z.out.kept HG3.out (by simp; omega)).kept hg4 (by simp)) (by kernel_rfl) rfl (pktList_one _) ?_
      intro V5 hq5 hg5
      refine hK.out _ _ ?_ (fun hHeld => ?_)
      · exact ⟨((HP3.out.kept hg4 (by simp; omega)).kept hg5 (by simp; omega)).cell 18 rfl, rangeAt_kept hHeld.2 hg5 (by simp; omega)⟩
      clear hK K
      try go_simp
      refine wpAnyH_take (i := 9) (v := ?_) rfl (by kernel_rfl) (by kernel_rfl) (by kernel_rfl) (fun _ _ _ h => h) (Or.inl ⟨by rfl, ?_⟩) hHeld ?_
      rotate_left
      · intro wS hSw; obtain ⟨hS0, hS1⟩ := hSw; go_simp; try with_reducible rfl
      try go_simp
      refine wpAnyH_take (i := 10) (v := ?_) rfl (by kernel_rfl) (by kernel_rfl) (by kernel_rfl) (fun _ _ _ h => h) (Or.inl ⟨by rfl, ?_⟩) hHeld ?_
      rotate_left
      · intro wS hSw; obtain ⟨hS0, hS1⟩ := hSw; go_simp; try with_reducible rfl
      try go_simp
      refine wpAnyH_take (i := 11) (v := ?_) rfl (by kernel_rfl) (by kernel_rfl) (by kernel_rfl) (fun _ _ _ h => h) (Or.inl ⟨by rfl, ?_⟩) hHeld ?_
      rotate_left
      · intro wS hSw; obtain ⟨hS0, hS1⟩ := hSw; go_simp; try with_reducible rfl
      try go_simp
      refine wpAnyH_done (by kernel_rfl) ?_ _
      go_wp2
      simp only [Exit.jump]
      refine bodyPost_ret (results_cc111 Tryd.results14 rfl rfl (run_loadVar_mid _ (w.heap.size + 1) 0 28 (dqList A B room (some ⟨g, 15, none⟩) 2 0 now s1) _ (hq4.kept hg5 (by simp)).range Tryd.underlying28 rfl (by kernel_rfl)) (run_loadVar_mid _ (w.heap.size + 1 + 1) 0 30 (pktList y.p) _ hq5.range Tryd.underlying30 rfl (by kernel_rfl))) rfl ?_
      have hp5 := (HP3.out.kept hg4 (by simp; omega)).kept hg5 (by simp; omega)
      have hb5 := below_grown (below_grown (below_grown HBZ.out HG3.out (fun k hk => by injection hk with hk; omega)) hg4 (fun k hk => by injection hk with hk; omega)) hg5 (fun k hk => by injection hk with hk; omega)
      have hl1 := ((HL1Z.out.kept HG3.out (by omega) (fun k hk => by injection hk with hk; omega)).kept hg4 (by have := HG3.out.size; omega) (fun k hk => by injection hk with hk; omega)).kept hg5 (by have := HG3.out.size; have := hg4.size; omega) (fun k hk => by injection hk with hk; omega)
      have hl2 := ((HL2Z.out.kept HG3.out (by omega) (fun k hk => by injection hk with hk; omega)).kept hg4 (by have := HG3.out.size; omega) (fun k hk => by injection hk with hk; omega)).kept hg5 (by have := HG3.out.size; have := hg4.size; omega) (fun k hk => by injection hk with hk; omega)
      have apart : ∀ k, k ≤ r → dr1.ownBlock = none ∨ dr1.ownBlock ≠ some k := fun k hk => by
        cases hd : dr1.ownBlock with
        | none => exact Or.inl rfl
        | some j => exact Or.inr (fun e => by have := HOZ.out.low j hd; injection e with e; omega)
      have ho5 := ((HOZ.out.kept HG3.out (apart _ (by omega))).kept hg4 (apart _ (by omega))).kept hg5 (apart _ (by omega))
      rw [← HTA.out, HTK.out]
      exact ⟨g, _, _, _, _, dr1, rfl, hb5, hp5.cell 15 rfl, hp5.cell 16 rfl, hl1.1, hl2.1, owns_mono8 ho5 (by have := HB.out.size; omega), by omega⟩
    · have hkp : Keep V V1 r g := ⟨hk1.os, hk1.tape, hk1.output, hk1.size, hk1.block⟩
      have HTK := Lib.hid htk1
      have HPS1 := Lib.hid hps1
      have HB1 := Lib.hid (hkp.below HB.out (by omega) hgr)
      have H41 := Lib.hid (hkp.blk (by omega) (by omega) H4.out)
      have H51 := Lib.hid (hkp.blk (by omega) (by omega) H5.out)
      have H111 := Lib.hid (hkp.blk (Nat.le_refl _) (by omega) H11.out)
      have hr1 := H111.out.lt
      clear hkp hps1 htk1 k6 k15 k16 H4 H5 H11
      clear hk1
      go_wp2_with (first | (refine wpList_store_blk rfl 30 _ _ rfl r (pktList p) (pktList default) rfl rfl H111.out (by kernel_rfl) rfl (pktList_one _) ?_; intro V2 hp2 hg2; have HPSZ := Lib.hid (HPS1.out.kept hg2 (fun k e => Or.inr (by injection e with e; exact e.symm))); have HBZ := Lib.hid (below_grown HB1.out hg2 (fun k hk => by injection hk with hk; omega)); have H4Z := Lib.hid (H41.out.kept hg2 (by simp; omega)); have H5Z := Lib.hid (H51.out.kept hg2 (by simp; omega)); have H11Z := Lib.hid hp2; clear hp2 hg2 HPS1 HB1 H41 H51 H111))
      go_step3
      have hln : ys.length + 1 = n2 := by have := HL2.out; rwa [List.length_cons] at this
      have hst : TakeSt w V2 A B room _ _ now out g r xs ys 0 s1 (drops ++ [y.p]) := ⟨HPSZ.out, HTK.out.symm.trans HTA.out, HTX.out, HTY.out.tail, by omega, by omega, by rw [HL1.out]; exact lx, by rw [List.length_append]; simp only [List.length_cons, List.length_nil]; omega, HBZ.out, H4Z.out, H5Z.out, default, H11Z.out⟩
      obtain ⟨a1', c1', a2', c2', dr1, hpz, -⟩ := HPSZ.out
      exact ⟨rfl, ⟨g, r, xs, ys, 0, s1, drops ++ [y.p], TakeAct.of rfl, hst⟩, Nat.lt_of_le_of_lt (Nat.le_of_eq (takeMu_eq rfl (hpz.cell 16 rfl))) (Nat.lt_of_lt_of_le (by omega) (Nat.le_of_eq (HMU.out _ rfl).symm))⟩
end Go.Proofs.YtdecclklenaoaaaDoor
