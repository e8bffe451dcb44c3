/- The laws of package ratio over plain integers: sums and products are exact, commute, are associative where they are in range, have inverses, and respect the order. -/
import Derived.Test.YtjnjokkhkfdaiaaRatMath
namespace Go.Proofs.Ytjnjokkhkfdaiaa.Rt

theorem red_bd {n d : Int} (hd : 0 < d) : (Rat.divInt n d).num.natAbs ≤ n.natAbs ∧ ((Rat.divInt n d).den : Int) ≤ d := by
  obtain ⟨h1, h2⟩ := red_num (n := n) (d := d) (by omega)
  rw [if_neg (by omega)] at h1 h2
  rw [h1, h2]
  have hpos : 0 < Int.gcd n d := Int.gcd_pos_of_ne_zero_right _ (by omega)
  refine ⟨?_, ?_⟩
  · rw [Int.natAbs_tdiv]; exact Nat.div_le_self _ _
  · rw [Int.tdiv_eq_ediv_of_nonneg (by omega)]; exact Int.ediv_le_self _ (by omega)

theorem out_of_bd {q : Rat} (h1 : q.num.natAbs ≤ 1000000000) (h2 : q.den ≤ 1000000000) : out q = (q.num, (q.den : Int), 0) := by
  unfold out
  rw [if_pos]
  have := q.den_pos
  exact fits_of ⟨by omega, by omega, by omega, by omega⟩

/-- A result of small numbers is in range, and exact. -/
theorem red_exact {n d : Int} (hd : 0 < d) (h1 : n.natAbs ≤ 1000000000) (h2 : d ≤ 1000000000) :
    ∃ x y : Int, red n d = (x, y, 0) ∧ x.natAbs ≤ n.natAbs ∧ 1 ≤ y ∧ y ≤ d ∧ x * d = y * n ∧ valid x y = true ∧ V x y = Rat.divInt n d := by
  obtain ⟨b1, b2⟩ := red_bd (n := n) hd
  have hp := (Rat.divInt n d).den_pos
  have ho := out_of_bd (q := Rat.divInt n d) (by omega) (by omega)
  have h3 := out_ok (q := Rat.divInt n d) (by rw [ho])
  rw [ho] at h3
  refine ⟨_, _, by rw [red_out, ho], b1, by omega, b2, ?_, h3.2.1, h3.2.2⟩
  have hv := h3.2.2
  have h4 : Rat.divInt (Rat.divInt n d).num ((Rat.divInt n d).den : Int) = Rat.divInt n d := hv
  rw [Rat.divInt_eq_divInt_iff (by omega) (by omega)] at h4
  rw [h4, Int.mul_comm]

theorem abs_mul {a b x y : Int} (h1 : -x ≤ a) (h2 : a ≤ x) (h3 : -y ≤ b) (h4 : b ≤ y) (hx : 0 ≤ x) (hy : 0 ≤ y) : -(x * y) ≤ a * b ∧ a * b ≤ x * y := by
  have e : (a * b).natAbs ≤ x.natAbs * y.natAbs := by
    rw [Int.natAbs_mul]
    exact Nat.mul_le_mul (by omega) (by omega)
  have e2 : ((x.natAbs * y.natAbs : Nat) : Int) = x * y := by
    rw [Int.natCast_mul]
    congr 1 <;> omega
  omega

theorem pos_mul {a b x y : Int} (h1 : 1 ≤ a) (h2 : a ≤ x) (h3 : 1 ≤ b) (h4 : b ≤ y) : 1 ≤ a * b ∧ a * b ≤ x * y := by
  have := abs_mul (a := a) (b := b) (x := x) (y := y) (by omega) h2 (by omega) h4 (by omega) (by omega)
  have h5 : 0 < a * b := Int.mul_pos (by omega) (by omega)
  omega

def small (n d : Int) : Bool := valid n d && decide (-10000 ≤ n) && decide (n ≤ 10000) && decide (d ≤ 10000)
theorem small_bd {n d : Int} (h : small n d = true) : valid n d = true ∧ -10000 ≤ n ∧ n ≤ 10000 ∧ 1 ≤ d ∧ d ≤ 10000 := by
  unfold small at h
  simp only [Bool.and_eq_true, decide_eq_true_eq] at h
  have := valid_bd h.1.1.1
  exact ⟨h.1.1.1, h.1.1.2, h.1.2, by omega, h.2⟩

section
variable {an ad bn bd : Int}
theorem exact_add (ha : small an ad = true) (hb : small bn bd = true) :
    ∃ x y : Int, add an ad bn bd = (x, y, 0) ∧ -200000000 ≤ x ∧ x ≤ 200000000 ∧ 1 ≤ y ∧ y ≤ 100000000 ∧ x * (ad * bd) = y * (an * bd + bn * ad) := by
  obtain ⟨va, a1, a2, a3, a4⟩ := small_bd ha
  obtain ⟨vb, b1, b2, b3, b4⟩ := small_bd hb
  have e1 := abs_mul (a := an) (b := bd) (x := 10000) (y := 10000) (by omega) (by omega) (by omega) (by omega) (by omega) (by omega)
  have e2 := abs_mul (a := bn) (b := ad) (x := 10000) (y := 10000) (by omega) (by omega) (by omega) (by omega) (by omega) (by omega)
  have e3 := pos_mul a3 a4 b3 b4
  obtain ⟨x, y, hr, h1, h2, h3, h4, _⟩ := red_exact (n := an * bd + bn * ad) (d := ad * bd) (by omega) (by omega) (by omega)
  refine ⟨x, y, ?_, by omega, by omega, h2, by omega, h4⟩
  unfold add op
  rw [if_pos ⟨va, vb⟩, if_neg (by omega), hr]
theorem exact_sub (ha : small an ad = true) (hb : small bn bd = true) :
    ∃ x y : Int, sub an ad bn bd = (x, y, 0) ∧ -200000000 ≤ x ∧ x ≤ 200000000 ∧ 1 ≤ y ∧ y ≤ 100000000 ∧ x * (ad * bd) = y * (an * bd - bn * ad) := by
  obtain ⟨va, a1, a2, a3, a4⟩ := small_bd ha
  obtain ⟨vb, b1, b2, b3, b4⟩ := small_bd hb
  have e1 := abs_mul (a := an) (b := bd) (x := 10000) (y := 10000) (by omega) (by omega) (by omega) (by omega) (by omega) (by omega)
  have e2 := abs_mul (a := bn) (b := ad) (x := 10000) (y := 10000) (by omega) (by omega) (by omega) (by omega) (by omega) (by omega)
  have e3 := pos_mul a3 a4 b3 b4
  obtain ⟨x, y, hr, h1, h2, h3, h4, _⟩ := red_exact (n := an * bd - bn * ad) (d := ad * bd) (by omega) (by omega) (by omega)
  refine ⟨x, y, ?_, by omega, by omega, h2, by omega, h4⟩
  unfold sub op
  rw [if_pos ⟨va, vb⟩, if_neg (by omega), hr]
theorem exact_mul (ha : small an ad = true) (hb : small bn bd = true) :
    ∃ x y : Int, mul an ad bn bd = (x, y, 0) ∧ -100000000 ≤ x ∧ x ≤ 100000000 ∧ 1 ≤ y ∧ y ≤ 100000000 ∧ x * (ad * bd) = y * an * bn := by
  obtain ⟨va, a1, a2, a3, a4⟩ := small_bd ha
  obtain ⟨vb, b1, b2, b3, b4⟩ := small_bd hb
  have e1 := abs_mul (a := an) (b := bn) (x := 10000) (y := 10000) (by omega) (by omega) (by omega) (by omega) (by omega) (by omega)
  have e3 := pos_mul a3 a4 b3 b4
  obtain ⟨x, y, hr, h1, h2, h3, h4, _⟩ := red_exact (n := an * bn) (d := ad * bd) (by omega) (by omega) (by omega)
  refine ⟨x, y, ?_, by omega, by omega, h2, by omega, by rw [h4, Int.mul_assoc]⟩
  unfold mul op
  rw [if_pos ⟨va, vb⟩, if_neg (by omega), hr]
theorem red_neg (n d : Int) : red n d = red (-n) (-d) := by unfold red; rw [Rat.neg_divInt_neg]
theorem exact_div (ha : small an ad = true) (hb : small bn bd = true) (h0 : bn ≠ 0) :
    ∃ x y : Int, div an ad bn bd = (x, y, 0) ∧ -100000000 ≤ x ∧ x ≤ 100000000 ∧ 1 ≤ y ∧ y ≤ 100000000 ∧ x * ad * bn = y * an * bd := by
  obtain ⟨va, a1, a2, a3, a4⟩ := small_bd ha
  obtain ⟨vb, b1, b2, b3, b4⟩ := small_bd hb
  have e1 := abs_mul (a := an) (b := bd) (x := 10000) (y := 10000) (by omega) (by omega) (by omega) (by omega) (by omega) (by omega)
  have e3 := abs_mul (a := ad) (b := bn) (x := 10000) (y := 10000) (by omega) (by omega) (by omega) (by omega) (by omega) (by omega)
  have hne : ad * bn ≠ 0 := Int.mul_ne_zero (by omega) h0
  have key : ∃ x y : Int, red (an * bd) (ad * bn) = (x, y, 0) ∧ x.natAbs ≤ (an * bd).natAbs ∧ 1 ≤ y ∧ y ≤ 100000000 ∧ x * (ad * bn) = y * (an * bd) := by
    rcases Int.lt_or_gt_of_ne hne with h | h
    · obtain ⟨x, y, hr, h1, h2, h3, h4, _⟩ := red_exact (n := -(an * bd)) (d := -(ad * bn)) (by omega) (by omega) (by omega)
      refine ⟨x, y, by rw [red_neg]; exact hr, by omega, h2, by omega, ?_⟩
      rw [Int.mul_neg, Int.mul_neg] at h4
      omega
    · obtain ⟨x, y, hr, h1, h2, h3, h4, _⟩ := red_exact (n := an * bd) (d := ad * bn) h (by omega) (by omega)
      exact ⟨x, y, hr, h1, h2, by omega, h4⟩
  obtain ⟨x, y, hr, h1, h2, h3, h4⟩ := key
  refine ⟨x, y, ?_, by omega, by omega, h2, by omega, by rw [Int.mul_assoc, h4, Int.mul_assoc]⟩
  unfold div op
  rw [if_pos ⟨va, vb⟩, if_neg hne, hr]

theorem add_comm' (an ad bn bd : Int) : add an ad bn bd = add bn bd an ad := by
  by_cases h : valid an ad = true ∧ valid bn bd = true
  · rw [add_V h.1 h.2, add_V h.2 h.1, Rat.add_comm]
  · unfold add; rw [bad_op h, bad_op (fun k => h ⟨k.2, k.1⟩)]
theorem mul_comm' (an ad bn bd : Int) : mul an ad bn bd = mul bn bd an ad := by
  by_cases h : valid an ad = true ∧ valid bn bd = true
  · rw [mul_V h.1 h.2, mul_V h.2 h.1, Rat.mul_comm]
  · unfold mul; rw [bad_op h, bad_op (fun k => h ⟨k.2, k.1⟩)]

/-- What is in range has the value of the result. -/
theorem add_ok (h : (add an ad bn bd).2.2 = 0) : valid an ad = true ∧ valid bn bd = true ∧ valid (add an ad bn bd).1 (add an ad bn bd).2.1 = true ∧ V (add an ad bn bd).1 (add an ad bn bd).2.1 = V an ad + V bn bd := by
  obtain ⟨ha, hb⟩ := ok_valid (an := an) (ad := ad) (bn := bn) (bd := bd) (n := an * bd + bn * ad) (d := ad * bd) h
  rw [add_V ha hb] at h ⊢
  have := out_ok h
  exact ⟨ha, hb, this.2.1, this.2.2⟩
theorem sub_ok (h : (sub an ad bn bd).2.2 = 0) : valid an ad = true ∧ valid bn bd = true ∧ valid (sub an ad bn bd).1 (sub an ad bn bd).2.1 = true ∧ V (sub an ad bn bd).1 (sub an ad bn bd).2.1 = V an ad - V bn bd := by
  obtain ⟨ha, hb⟩ := ok_valid (an := an) (ad := ad) (bn := bn) (bd := bd) (n := an * bd - bn * ad) (d := ad * bd) h
  rw [sub_V ha hb] at h ⊢
  have := out_ok h
  exact ⟨ha, hb, this.2.1, this.2.2⟩
theorem mul_ok (h : (mul an ad bn bd).2.2 = 0) : valid an ad = true ∧ valid bn bd = true ∧ valid (mul an ad bn bd).1 (mul an ad bn bd).2.1 = true ∧ V (mul an ad bn bd).1 (mul an ad bn bd).2.1 = V an ad * V bn bd := by
  obtain ⟨ha, hb⟩ := ok_valid (an := an) (ad := ad) (bn := bn) (bd := bd) (n := an * bn) (d := ad * bd) h
  rw [mul_V ha hb] at h ⊢
  have := out_ok h
  exact ⟨ha, hb, this.2.1, this.2.2⟩

/-- The sum less the one is the other. -/
theorem add_sub (h : (add an ad bn bd).2.2 = 0) : sub (add an ad bn bd).1 (add an ad bn bd).2.1 bn bd = (an, ad, 0) ∧ sub (add an ad bn bd).1 (add an ad bn bd).2.1 an ad = (bn, bd, 0) := by
  obtain ⟨ha, hb, hs, hv⟩ := add_ok h
  rw [sub_V hs hb, sub_V hs ha, hv]
  refine ⟨?_, ?_⟩
  · rw [Rat.add_sub_cancel, out_V ha]
  · rw [Rat.add_comm, Rat.add_sub_cancel, out_V hb]
theorem mul_div (h : (mul an ad bn bd).2.2 = 0) :
    (bn = 0 ∧ (div (mul an ad bn bd).1 (mul an ad bn bd).2.1 bn bd) = (0, 0, 14) ∨ bn ≠ 0 ∧ div (mul an ad bn bd).1 (mul an ad bn bd).2.1 bn bd = (an, ad, 0)) ∧
    (an = 0 ∧ (div (mul an ad bn bd).1 (mul an ad bn bd).2.1 an ad) = (0, 0, 14) ∨ an ≠ 0 ∧ div (mul an ad bn bd).1 (mul an ad bn bd).2.1 an ad = (bn, bd, 0)) := by
  obtain ⟨ha, hb, hs, hv⟩ := mul_ok h
  refine ⟨?_, ?_⟩
  · by_cases h0 : bn = 0
    · exact .inl ⟨h0, div_zero hs hb h0⟩
    · refine .inr ⟨h0, ?_⟩
      have hne : V bn bd ≠ 0 := fun e => h0 ((V_zero_iff hb).1 e)
      rw [div_V hs hb h0, hv, Rat.mul_assoc, Rat.mul_inv_cancel _ hne, Rat.mul_one, out_V ha]
  · by_cases h0 : an = 0
    · exact .inl ⟨h0, div_zero hs ha h0⟩
    · refine .inr ⟨h0, ?_⟩
      have hne : V an ad ≠ 0 := fun e => h0 ((V_zero_iff ha).1 e)
      rw [div_V hs ha h0, hv, Rat.mul_comm (V an ad), Rat.mul_assoc, Rat.mul_inv_cancel _ hne, Rat.mul_one, out_V hb]
end

/-! Three ratios with numbers of at most 900. -/
def tiny (n d : Int) : Bool := valid n d && decide (-900 ≤ n) && decide (n ≤ 900) && decide (d ≤ 900)
theorem tiny_bd {n d : Int} (h : tiny n d = true) : valid n d = true ∧ -900 ≤ n ∧ n ≤ 900 ∧ 1 ≤ d ∧ d ≤ 900 := by
  unfold tiny at h
  simp only [Bool.and_eq_true, decide_eq_true_eq] at h
  have := valid_bd h.1.1.1
  exact ⟨h.1.1.1, h.1.1.2, h.1.2, by omega, h.2⟩
theorem tiny_small {n d : Int} (h : tiny n d = true) : small n d = true := by
  obtain ⟨h1, h2, h3, h4, h5⟩ := tiny_bd h
  unfold small
  rw [h1]
  simp only [Bool.and_eq_true, decide_eq_true_eq, Bool.true_and]
  omega
section
variable {an ad bn bd cn cd : Int}
theorem small_add (ha : small an ad = true) (hb : small bn bd = true) : (add an ad bn bd).2.2 = 0 := by
  obtain ⟨x, y, h, _⟩ := exact_add ha hb
  rw [h]
theorem small_mul (ha : small an ad = true) (hb : small bn bd = true) : (mul an ad bn bd).2.2 = 0 := by
  obtain ⟨x, y, h, _⟩ := exact_mul ha hb
  rw [h]
theorem add_assoc' (ha : tiny an ad = true) (hb : tiny bn bd = true) (hc : tiny cn cd = true) :
    add (add an ad bn bd).1 (add an ad bn bd).2.1 cn cd = add an ad (add bn bd cn cd).1 (add bn bd cn cd).2.1 := by
  obtain ⟨va, vb, vs, es⟩ := add_ok (small_add (tiny_small ha) (tiny_small hb))
  obtain ⟨_, vc, vy, ey⟩ := add_ok (small_add (tiny_small hb) (tiny_small hc))
  rw [add_V vs vc, add_V va vy, es, ey, Rat.add_assoc]
theorem mul_assoc' (ha : tiny an ad = true) (hb : tiny bn bd = true) (hc : tiny cn cd = true) :
    mul (mul an ad bn bd).1 (mul an ad bn bd).2.1 cn cd = mul an ad (mul bn bd cn cd).1 (mul bn bd cn cd).2.1 := by
  obtain ⟨va, vb, vs, es⟩ := mul_ok (small_mul (tiny_small ha) (tiny_small hb))
  obtain ⟨_, vc, vy, ey⟩ := mul_ok (small_mul (tiny_small hb) (tiny_small hc))
  rw [mul_V vs vc, mul_V va vy, es, ey, Rat.mul_assoc]
theorem distrib' (ha : tiny an ad = true) (hb : tiny bn bd = true) (hc : tiny cn cd = true) :
    mul (add an ad bn bd).1 (add an ad bn bd).2.1 cn cd = add (mul an ad cn cd).1 (mul an ad cn cd).2.1 (mul bn bd cn cd).1 (mul bn bd cn cd).2.1 := by
  obtain ⟨va, vb, vs, es⟩ := add_ok (small_add (tiny_small ha) (tiny_small hb))
  obtain ⟨_, vc, vw, ew⟩ := mul_ok (small_mul (tiny_small ha) (tiny_small hc))
  obtain ⟨_, _, vz, ez⟩ := mul_ok (small_mul (tiny_small hb) (tiny_small hc))
  rw [mul_V vs vc, add_V vw vz, es, ew, ez, Rat.add_mul]
end

/-! The order. -/
section
variable {an ad bn bd cn cd : Int}
theorem cmp_V (ha : valid an ad = true) (hb : valid bn bd = true) : cmp an ad bn bd = ((if V an ad < V bn bd then -1 else if V bn bd < V an ad then 1 else 0), 0) := by
  unfold cmp
  rw [if_pos ⟨ha, hb⟩]
  have e1 := V_lt ha hb
  have e2 := V_lt hb ha
  by_cases h1 : an * bd < bn * ad
  · rw [if_pos h1, if_pos (e1.2 h1)]
  · rw [if_neg h1, if_neg (fun h => h1 (e1.1 h))]
    by_cases h2 : bn * ad < an * bd
    · rw [if_pos h2, if_pos (e2.2 h2)]
    · rw [if_neg h2, if_neg (fun h => h2 (e2.1 h))]
def sg (p q : Rat) : Int := if p < q then -1 else if q < p then 1 else 0
theorem sg_swap (p q : Rat) : sg p q = - sg q p := by
  unfold sg
  by_cases h1 : p < q
  · have h2 : ¬ q < p := fun h => Rat.not_lt.2 (Rat.le_of_lt h1) h
    rw [if_pos h1, if_neg h2, if_pos h1]
  · by_cases h2 : q < p
    · rw [if_neg h1, if_pos h2, if_pos h2]; rfl
    · rw [if_neg h1, if_neg h2, if_neg h2, if_neg h1]; rfl
theorem sg_zero (p q : Rat) : sg p q = 0 ↔ p = q := by
  unfold sg
  constructor
  · intro h
    by_cases h1 : p < q
    · rw [if_pos h1] at h; omega
    · rw [if_neg h1] at h
      by_cases h2 : q < p
      · rw [if_pos h2] at h; omega
      · exact Rat.le_antisymm (Rat.not_lt.1 h2) (Rat.not_lt.1 h1)
  · rintro rfl
    rw [if_neg Rat.lt_irrefl, if_neg Rat.lt_irrefl]
theorem sg_range (p q : Rat) : -1 ≤ sg p q ∧ sg p q ≤ 1 := by
  unfold sg
  split
  · omega
  · split <;> omega
theorem sg_pos (p q : Rat) : 0 < sg p q ↔ q < p := by
  unfold sg
  by_cases h1 : p < q
  · have h2 : ¬ q < p := fun h => Rat.not_lt.2 (Rat.le_of_lt h1) h
    rw [if_pos h1]
    exact ⟨fun h => by omega, fun h => absurd h h2⟩
  · rw [if_neg h1]
    by_cases h2 : q < p
    · rw [if_pos h2]; exact ⟨fun _ => h2, fun _ => by omega⟩
    · rw [if_neg h2]; exact ⟨fun h => by omega, fun h => absurd h h2⟩
theorem sg_neg (p q : Rat) : sg p q < 0 ↔ p < q := by
  rw [sg_swap, ← sg_pos q p]
  omega
theorem sg_trans (p q r : Rat) : 0 < sg p q ∨ 0 < sg q r ∨ sg p r ≤ 0 := by
  by_cases h1 : 0 < sg p q
  · exact .inl h1
  · by_cases h2 : 0 < sg q r
    · exact .inr (.inl h2)
    · refine .inr (.inr ?_)
      rw [sg_pos] at h1 h2
      have h3 := Rat.le_trans (Rat.not_lt.1 h1) (Rat.not_lt.1 h2)
      have h4 : ¬ 0 < sg p r := fun h => Rat.not_lt.2 h3 ((sg_pos p r).1 h)
      omega
theorem sg_add (p q r : Rat) : sg (p + r) (q + r) = sg p q := by
  unfold sg
  simp only [Rat.add_lt_add_right]
theorem cmp_sg (ha : valid an ad = true) (hb : valid bn bd = true) : cmp an ad bn bd = (sg (V an ad) (V bn bd), 0) := cmp_V ha hb
theorem num_sign {q : Rat} : (0 < q.num ↔ 0 < q) ∧ (q.num < 0 ↔ q < 0) := by
  constructor
  · rw [Rat.lt_iff]; simp
  · rw [Rat.lt_iff]; simp
theorem sub_sign (h : (sub an ad bn bd).2.2 = 0) :
    (0 < (sub an ad bn bd).1 ↔ 0 < sg (V an ad) (V bn bd)) ∧ ((sub an ad bn bd).1 < 0 ↔ sg (V an ad) (V bn bd) < 0) := by
  obtain ⟨_, _, hv, he⟩ := sub_ok h
  have hn := V_num hv
  rw [he] at hn
  rw [← hn, num_sign.1, num_sign.2, sg_pos, sg_neg]
  refine ⟨(Rat.lt_iff_sub_pos _ _).symm, ?_⟩
  rw [Rat.lt_iff_sub_pos (V an ad), ← Rat.neg_sub (V an ad), Rat.lt_neg_iff]
  rfl
end
end Go.Proofs.Ytjnjokkhkfdaiaa.Rt
