/- More laws of package ratio over plain integers: equal quotients have the same ratio; a result is out of range if and only if its numbers in lowest terms are too great. -/
import Derived.Test.YtjnjokkhkfdaiaaRatLaws
namespace Go.Proofs.Ytjnjokkhkfdaiaa.Rt

theorem red_exact' {n d : Int} (hd : d ≠ 0) (h1 : n.natAbs ≤ 1000000000) (h2 : d.natAbs ≤ 1000000000) :
    ∃ x y : Int, red n d = (x, y, 0) ∧ x.natAbs ≤ n.natAbs ∧ 1 ≤ y ∧ y ≤ d.natAbs ∧ x * d = y * n ∧ valid x y = true := by
  rcases Int.lt_or_gt_of_ne hd with h | h
  · obtain ⟨x, y, hr, b1, b2, b3, b4, b5, _⟩ := red_exact (n := -n) (d := -d) (by omega) (by omega) (by omega)
    refine ⟨x, y, by rw [red_neg]; exact hr, by omega, b2, by omega, ?_, b5⟩
    rw [Int.mul_neg, Int.mul_neg] at b4
    omega
  · obtain ⟨x, y, hr, b1, b2, b3, b4, b5, _⟩ := red_exact (n := n) (d := d) h (by omega) (by omega)
    exact ⟨x, y, hr, b1, b2, by omega, b4, b5⟩

theorem new_red {n d : Int} (h1 : -1000000000000 ≤ n) (h2 : n ≤ 1000000000000) (h3 : -1000000000000 ≤ d) (h4 : d ≤ 1000000000000) (h0 : d ≠ 0) : new n d = red n d := by
  unfold new
  rw [if_neg (by omega), if_neg h0]
theorem new_zero {n d : Int} (h1 : -1000000000000 ≤ n) (h2 : n ≤ 1000000000000) (h0 : d = 0) : new n d = (0, 0, 14) := by
  unfold new
  rw [if_neg (by omega), if_pos h0]

/-- A quotient and the same one, both numbers multiplied by one number. -/
theorem lowest {n d b : Int} (h1 : -1000000 ≤ n) (h2 : n ≤ 1000000) (h3 : -1000000 ≤ d) (h4 : d ≤ 1000000) (h5 : -1000000 ≤ b) (h6 : b ≤ 1000000) (hb : b ≠ 0) (hd : d ≠ 0) :
    ∃ x y : Int, new n d = (x, y, 0) ∧ new (n * b) (d * b) = (x, y, 0) ∧ -1000000 ≤ x ∧ x ≤ 1000000 ∧ 1 ≤ y ∧ y ≤ 1000000 ∧ x * d = y * n ∧ valid x y = true := by
  obtain ⟨x, y, hr, b1, b2, b3, b4, b5⟩ := red_exact' (n := n) (d := d) hd (by omega) (by omega)
  have e1 := abs_mul (a := n) (b := b) (x := 1000000) (y := 1000000) (by omega) (by omega) (by omega) (by omega) (by omega) (by omega)
  have e2 := abs_mul (a := d) (b := b) (x := 1000000) (y := 1000000) (by omega) (by omega) (by omega) (by omega) (by omega) (by omega)
  refine ⟨x, y, ?_, ?_, by omega, by omega, b2, by omega, b4, b5⟩
  · rw [new_red (by omega) (by omega) (by omega) (by omega) hd, hr]
  · rw [new_red (by omega) (by omega) (by omega) (by omega) (Int.mul_ne_zero hd hb)]
    unfold red
    rw [Rat.divInt_mul_right hb]
    exact hr

/-- Whether a quotient in lowest terms is out of range; g: the greatest common divisor. -/
def outside (n d : Int) : Bool := decide (1000000000 < (n.natAbs : Int) / (Int.gcd n d : Int)) || decide (1000000000 < d / (Int.gcd n d : Int))

theorem outside_red {n d : Int} (hd : 0 < d) : (outside n d = true → red n d = (0, 0, 3)) ∧ (outside n d = false → (red n d).2.2 = 0) := by
  have hpos : 0 < Int.gcd n d := Int.gcd_pos_of_ne_zero_right _ (by omega)
  obtain ⟨e1, e2⟩ := red_num (n := n) (d := d) (by omega)
  rw [if_neg (by omega)] at e1 e2
  have e3 : ((Rat.divInt n d).num.natAbs : Int) = (n.natAbs : Int) / (Int.gcd n d : Int) := by
    rw [e1, Int.natAbs_tdiv]; rfl
  have e4 : ((Rat.divInt n d).den : Int) = d / (Int.gcd n d : Int) := by
    rw [e2, Int.tdiv_eq_ediv_of_nonneg (by omega)]
  have hp := (Rat.divInt n d).den_pos
  unfold outside red
  rw [← e3, ← e4]
  constructor
  · intro h
    simp only [Bool.or_eq_true, decide_eq_true_eq] at h
    rw [if_neg]
    intro hf
    have := fits_bd hf
    omega
  · intro h
    simp only [Bool.or_eq_false_iff, decide_eq_false_iff_not] at h
    rw [if_pos (fits_of ⟨by omega, by omega, by omega, by omega⟩)]

/-- The sum and the product are out of range if and only if their numbers in lowest terms are. -/
theorem range_add {an ad bn bd : Int} (ha : valid an ad = true) (hb : valid bn bd = true) :
    (add an ad bn bd).2.2 = (if outside (an * bd + bn * ad) (ad * bd) = true then 3 else 0) := by
  have h1 := valid_bd ha
  have h2 := valid_bd hb
  have h3 : 0 < ad * bd := Int.mul_pos (by omega) (by omega)
  unfold add op
  rw [if_pos ⟨ha, hb⟩, if_neg (by omega)]
  cases ho : outside (an * bd + bn * ad) (ad * bd) with
  | true => rw [(outside_red h3).1 ho]; rfl
  | false => rw [(outside_red h3).2 ho]; rfl
theorem range_mul {an ad bn bd : Int} (ha : valid an ad = true) (hb : valid bn bd = true) :
    (mul an ad bn bd).2.2 = (if outside (an * bn) (ad * bd) = true then 3 else 0) := by
  have h1 := valid_bd ha
  have h2 := valid_bd hb
  have h3 : 0 < ad * bd := Int.mul_pos (by omega) (by omega)
  unfold mul op
  rw [if_pos ⟨ha, hb⟩, if_neg (by omega)]
  cases ho : outside (an * bn) (ad * bd) with
  | true => rw [(outside_red h3).1 ho]; rfl
  | false => rw [(outside_red h3).2 ho]; rfl
end Go.Proofs.Ytjnjokkhkfdaiaa.Rt
