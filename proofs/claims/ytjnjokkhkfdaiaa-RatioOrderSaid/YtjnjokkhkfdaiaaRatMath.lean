/- Package ratio over plain integers: a result in lowest terms is the numerator and denominator of a rational number, so the laws of rational numbers carry over. -/
namespace Go.Proofs.Ytjnjokkhkfdaiaa.Rt

def fits (n d : Int) : Bool := decide (-1000000000 ≤ n) && decide (n ≤ 1000000000) && decide (1 ≤ d) && decide (d ≤ 1000000000)
def valid (n d : Int) : Bool := fits n d && decide (Int.gcd n d = 1)
/-- The ratio of a quotient; the third number is the error. -/
def red (n d : Int) : Int × Int × Int :=
  if fits (Rat.divInt n d).num ((Rat.divInt n d).den : Int) = true then ((Rat.divInt n d).num, ((Rat.divInt n d).den : Int), 0) else (0, 0, 3)
def new (n d : Int) : Int × Int × Int :=
  if n < -1000000000000 ∨ 1000000000000 < n ∨ d < -1000000000000 ∨ 1000000000000 < d then (0, 0, 1) else if d = 0 then (0, 0, 14) else red n d
def op (an ad bn bd n d : Int) : Int × Int × Int :=
  if valid an ad = true ∧ valid bn bd = true then (if d = 0 then (0, 0, 14) else red n d) else (0, 0, 1)
def add (an ad bn bd : Int) : Int × Int × Int := op an ad bn bd (an * bd + bn * ad) (ad * bd)
def sub (an ad bn bd : Int) : Int × Int × Int := op an ad bn bd (an * bd - bn * ad) (ad * bd)
def mul (an ad bn bd : Int) : Int × Int × Int := op an ad bn bd (an * bn) (ad * bd)
def div (an ad bn bd : Int) : Int × Int × Int := op an ad bn bd (an * bd) (ad * bn)
def cmp (an ad bn bd : Int) : Int × Int :=
  if valid an ad = true ∧ valid bn bd = true then ((if an * bd < bn * ad then -1 else if bn * ad < an * bd then 1 else 0), 0) else (0, 1)

/-! The value of a valid ratio. -/
def V (n d : Int) : Rat := Rat.divInt n d

theorem fits_bd {n d : Int} (h : fits n d = true) : -1000000000 ≤ n ∧ n ≤ 1000000000 ∧ 1 ≤ d ∧ d ≤ 1000000000 := by
  simpa [fits, and_assoc] using h
theorem fits_of {n d : Int} (h : -1000000000 ≤ n ∧ n ≤ 1000000000 ∧ 1 ≤ d ∧ d ≤ 1000000000) : fits n d = true := by
  simpa [fits, and_assoc] using h
theorem valid_bd {n d : Int} (h : valid n d = true) : -1000000000 ≤ n ∧ n ≤ 1000000000 ∧ 1 ≤ d ∧ d ≤ 1000000000 := by
  unfold valid at h
  rw [Bool.and_eq_true] at h
  exact fits_bd h.1
theorem valid_gcd {n d : Int} (h : valid n d = true) : Int.gcd n d = 1 := by
  unfold valid at h
  rw [Bool.and_eq_true] at h
  simpa using h.2

theorem num_of {n d : Int} (hd : 0 < d) (hg : Int.gcd n d = 1) : (Rat.divInt n d).num = n := by
  rw [Rat.num_divInt, Int.sign_eq_one_of_pos hd, Int.gcd_comm, hg]; simp
theorem den_of {n d : Int} (hd : 0 < d) (hg : Int.gcd n d = 1) : ((Rat.divInt n d).den : Int) = d := by
  rw [Rat.den_divInt, if_neg (by omega), Int.gcd_comm, hg]; omega
theorem V_num {n d : Int} (h : valid n d = true) : (V n d).num = n := num_of (by have := valid_bd h; omega) (valid_gcd h)
theorem V_den {n d : Int} (h : valid n d = true) : ((V n d).den : Int) = d := den_of (by have := valid_bd h; omega) (valid_gcd h)
theorem V_inj {n d m e : Int} (h : valid n d = true) (k : valid m e = true) (e1 : V n d = V m e) : n = m ∧ d = e := by
  refine ⟨?_, ?_⟩
  · rw [← V_num h, ← V_num k, e1]
  · rw [← V_den h, ← V_den k, e1]
theorem gcd_rat (q : Rat) : Int.gcd q.num (q.den : Int) = 1 := by
  have := q.reduced
  unfold Nat.Coprime at this
  exact this
theorem valid_rat {q : Rat} (h : fits q.num (q.den : Int) = true) : valid q.num (q.den : Int) = true := by
  unfold valid
  rw [h, gcd_rat]; rfl
theorem V_rat (q : Rat) : V q.num (q.den : Int) = q := by unfold V; exact Rat.num_divInt_den q

/-- What the rational number q is as a result. -/
def out (q : Rat) : Int × Int × Int := if fits q.num (q.den : Int) = true then (q.num, (q.den : Int), 0) else (0, 0, 3)
theorem red_out (n d : Int) : red n d = out (Rat.divInt n d) := rfl
theorem out_ok {q : Rat} (h : (out q).2.2 = 0) : out q = (q.num, (q.den : Int), 0) ∧ valid (out q).1 (out q).2.1 = true ∧ V (out q).1 (out q).2.1 = q := by
  unfold out at *
  split at h
  · rename_i hf
    rw [if_pos hf]
    exact ⟨rfl, valid_rat hf, V_rat q⟩
  · simp at h
theorem out_V {n d : Int} (h : valid n d = true) : out (V n d) = (n, d, 0) := by
  unfold out
  rw [V_num h, V_den h, if_pos]
  unfold valid at h
  rw [Bool.and_eq_true] at h
  exact h.1
theorem out_err (q : Rat) : (out q).2.2 = 0 ∨ (out q).2.2 = 3 := by unfold out; split <;> simp

/-! The operations on valid ratios. -/
section
variable {an ad bn bd : Int}
theorem add_V (ha : valid an ad = true) (hb : valid bn bd = true) : add an ad bn bd = out (V an ad + V bn bd) := by
  have h1 := valid_bd ha
  have h2 := valid_bd hb
  have h3 : 0 < ad * bd := Int.mul_pos (by omega) (by omega)
  unfold add op
  rw [if_pos ⟨ha, hb⟩, if_neg (by omega), red_out]
  unfold V
  rw [Rat.divInt_add_divInt _ _ (by omega) (by omega)]
theorem sub_V (ha : valid an ad = true) (hb : valid bn bd = true) : sub an ad bn bd = out (V an ad - V bn bd) := by
  have h1 := valid_bd ha
  have h2 := valid_bd hb
  have h3 : 0 < ad * bd := Int.mul_pos (by omega) (by omega)
  unfold sub op
  rw [if_pos ⟨ha, hb⟩, if_neg (by omega), red_out]
  unfold V
  rw [Rat.divInt_sub_divInt _ _ (by omega) (by omega)]
theorem mul_V (ha : valid an ad = true) (hb : valid bn bd = true) : mul an ad bn bd = out (V an ad * V bn bd) := by
  have h1 := valid_bd ha
  have h2 := valid_bd hb
  have h3 : 0 < ad * bd := Int.mul_pos (by omega) (by omega)
  unfold mul op
  rw [if_pos ⟨ha, hb⟩, if_neg (by omega), red_out]
  unfold V
  rw [Rat.divInt_mul_divInt]
theorem div_V (ha : valid an ad = true) (hb : valid bn bd = true) (h0 : bn ≠ 0) : div an ad bn bd = out (V an ad * (V bn bd)⁻¹) := by
  have h1 := valid_bd ha
  have h2 := valid_bd hb
  have h3 : ad * bn ≠ 0 := Int.mul_ne_zero (by omega) h0
  unfold div op
  rw [if_pos ⟨ha, hb⟩, if_neg h3, red_out]
  unfold V
  rw [Rat.inv_divInt, Rat.divInt_mul_divInt]
theorem div_zero (ha : valid an ad = true) (hb : valid bn bd = true) (h0 : bn = 0) : div an ad bn bd = (0, 0, 14) := by
  unfold div op
  rw [if_pos ⟨ha, hb⟩, if_pos (by rw [h0, Int.mul_zero])]
theorem bad_op {n d : Int} (h : ¬ (valid an ad = true ∧ valid bn bd = true)) : op an ad bn bd n d = (0, 0, 1) := by
  unfold op; rw [if_neg h]
theorem ok_valid {n d : Int} (h : (op an ad bn bd n d).2.2 = 0) : valid an ad = true ∧ valid bn bd = true := by
  by_cases hv : valid an ad = true ∧ valid bn bd = true
  · exact hv
  · rw [bad_op hv] at h; simp at h
theorem V_zero_iff (h : valid an ad = true) : V an ad = 0 ↔ an = 0 := by
  have := V_num h
  constructor
  · intro e; rw [e] at this; simpa using this.symm
  · rintro rfl; unfold V; simp
theorem V_lt (ha : valid an ad = true) (hb : valid bn bd = true) : V an ad < V bn bd ↔ an * bd < bn * ad := by
  rw [Rat.lt_iff, V_num ha, V_num hb, V_den ha, V_den hb]
end

/-- Both spellings of the reduction: the divisor with the sign of the denominator, and the signs turned first. -/
theorem red_num {n d : Int} (hd : d ≠ 0) : (Rat.divInt n d).num = n.tdiv (if d < 0 then -(Int.gcd n d : Int) else (Int.gcd n d : Int)) ∧ ((Rat.divInt n d).den : Int) = d.tdiv (if d < 0 then -(Int.gcd n d : Int) else (Int.gcd n d : Int)) := by
  have hg1 : ((Int.gcd n d : Nat) : Int) ∣ n := Int.gcd_dvd_left ..
  have hg2 : ((Int.gcd n d : Nat) : Int) ∣ d := Int.gcd_dvd_right ..
  have hpos : 0 < Int.gcd n d := Int.gcd_pos_of_ne_zero_right _ hd
  rw [Rat.num_divInt, Rat.den_divInt, if_neg hd, Int.gcd_comm d n]
  generalize hG : Int.gcd n d = g at *
  obtain ⟨x, hx⟩ := hg1
  obtain ⟨y, hy⟩ := hg2
  have hgi : (g : Int) ≠ 0 := by omega
  rcases Int.lt_or_gt_of_ne hd with hneg | hp
  · rw [if_pos hneg, Int.sign_eq_neg_one_of_neg hneg, Int.tdiv_neg, Int.tdiv_neg]
    have hyn : y < 0 := by
      rcases Int.lt_or_le y 0 with h | h
      · exact h
      · have := Int.mul_nonneg (Int.natCast_nonneg g) h
        omega
    refine ⟨?_, ?_⟩
    · rw [hx, Int.mul_tdiv_cancel_left _ hgi, show (-1 : Int) * (↑g * x) = ↑g * (-x) by rw [Int.neg_one_mul, Int.mul_neg], Int.mul_ediv_cancel_left _ hgi]
    · have e2 : d.natAbs = g * y.natAbs := by rw [hy, Int.natAbs_mul, Int.natAbs_natCast]
      rw [e2, Nat.mul_div_cancel_left _ hpos, hy, Int.mul_tdiv_cancel_left _ hgi]
      omega
  · rw [if_neg (by omega), Int.sign_eq_one_of_pos hp, Int.one_mul]
    have hyp : 0 < y := by
      rcases Int.lt_or_le 0 y with h | h
      · exact h
      · have := Int.mul_nonpos_of_nonneg_of_nonpos (Int.natCast_nonneg g) h
        omega
    refine ⟨?_, ?_⟩
    · rw [hx, Int.mul_tdiv_cancel_left _ hgi, Int.mul_ediv_cancel_left _ hgi]
    · have e2 : d.natAbs = g * y.natAbs := by rw [hy, Int.natAbs_mul, Int.natAbs_natCast]
      rw [e2, Nat.mul_div_cancel_left _ hpos, hy, Int.mul_tdiv_cancel_left _ hgi]
      omega
end Go.Proofs.Ytjnjokkhkfdaiaa.Rt
