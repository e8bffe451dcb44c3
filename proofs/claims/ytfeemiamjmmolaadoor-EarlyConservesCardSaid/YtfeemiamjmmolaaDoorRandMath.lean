/- The numbers of package random over natural numbers: the mixing is injective, and seeds that are fewer than 2^64 steps apart differ. -/
namespace Go.Proofs.YtfeemiamjmmolaaDoor.Rand

/-- 2^64. -/
def M : Nat := 18446744073709551616
def step : Nat := 11400714819323198485
/-- One round of the mixing. -/
def mix (s f x : Nat) : Nat := ((x ^^^ (x / 2 ^ s)) * f) % M
def nextSeed (seed : Nat) : Nat := (seed + step) % M
def num (seed : Nat) : Nat := mix 31 1 (mix 27 10723151780598845931 (mix 30 13787848793156543929 (nextSeed seed)))

theorem M_pos : 0 < M := by unfold M; omega
theorem M_pow : M = 2 ^ 64 := by unfold M; rfl
theorem mix_lt (s f x : Nat) : mix s f x < M := Nat.mod_lt _ M_pos
theorem nextSeed_lt (s : Nat) : nextSeed s < M := Nat.mod_lt _ M_pos
theorem num_lt (s : Nat) : num s < M := mix_lt _ _ _

theorem fold_inj (s x y : Nat) (hs : 0 < s) (h : x ^^^ (x / 2 ^ s) = y ^^^ (y / 2 ^ s)) : x = y := by
  have hb : ∀ i, (x.testBit i ^^ x.testBit (s + i)) = (y.testBit i ^^ y.testBit (s + i)) := by
    intro i
    have := congrArg (fun n => n.testBit i) h
    simpa [Nat.testBit_xor, Nat.testBit_div_two_pow, Nat.add_comm] using this
  have hbig : ∃ K, ∀ i, K ≤ i → x.testBit i = false ∧ y.testBit i = false := by
    refine ⟨x + y, fun i hi => ⟨?_, ?_⟩⟩
    · exact Nat.testBit_lt_two_pow (Nat.lt_of_le_of_lt (by omega) (Nat.lt_two_pow_self (n := i)))
    · exact Nat.testBit_lt_two_pow (Nat.lt_of_le_of_lt (by omega) (Nat.lt_two_pow_self (n := i)))
  obtain ⟨K, hK⟩ := hbig
  have key : ∀ d i, K ≤ i + d → x.testBit i = y.testBit i := by
    intro d
    induction d with
    | zero => intro i hi; rw [(hK i hi).1, (hK i hi).2]
    | succ d ih =>
      intro i hi
      have h1 := ih (s + i) (by omega)
      have h2 := hb i
      rw [h1] at h2
      revert h2
      cases x.testBit i <;> cases y.testBit i <;> cases y.testBit (s + i) <;> simp
  exact Nat.eq_of_testBit_eq fun i => key K i (by omega)

theorem fold_lt (s x : Nat) (hx : x < M) : x ^^^ (x / 2 ^ s) < M := by
  rw [M_pow] at *
  exact Nat.xor_lt_two_pow hx (Nat.lt_of_le_of_lt (Nat.div_le_self _ _) hx)

theorem mul_inj (f g x y : Nat) (hfg : f * g % M = 1) (hx : x < M) (hy : y < M) (h : x * f % M = y * f % M) : x = y := by
  have e : ∀ z, z < M → (z * f % M) * g % M = z := by
    intro z hz
    rw [Nat.mod_mul_mod, Nat.mul_assoc, Nat.mul_mod, hfg, Nat.mul_one, Nat.mod_mod, Nat.mod_eq_of_lt hz]
  rw [← e x hx, ← e y hy, h]

theorem mix_inj (s f g x y : Nat) (hs : 0 < s) (hfg : f * g % M = 1) (hx : x < M) (hy : y < M) (h : mix s f x = mix s f y) : x = y :=
  fold_inj s x y hs (mul_inj f g _ _ hfg (fold_lt s x hx) (fold_lt s y hy) h)

theorem nextSeed_inj (a b : Nat) (ha : a < M) (hb : b < M) (h : nextSeed a = nextSeed b) : a = b := by
  unfold nextSeed step M at *
  omega

theorem num_of_nextSeed (a b : Nat) (h : nextSeed a = nextSeed b) : num a = num b := by unfold num; rw [h]

theorem num_inj (a b : Nat) (ha : a < M) (hb : b < M) (h : num a = num b) : a = b := by
  unfold num at h
  have h1 := mix_inj 31 1 1 _ _ (by omega) (by unfold M; rfl) (mix_lt _ _ _) (mix_lt _ _ _) h
  have h2 := mix_inj 27 10723151780598845931 3573116690164977347 _ _ (by omega) (by unfold M; rfl) (mix_lt _ _ _) (mix_lt _ _ _) h1
  have h3 := mix_inj 30 13787848793156543929 10871156337175269513 _ _ (by omega) (by unfold M; rfl) (nextSeed_lt _) (nextSeed_lt _) h2
  exact nextSeed_inj a b ha hb h3

/-- The seed after some steps. -/
def seedAt (s k : Nat) : Nat := (s + k * step) % M
theorem seedAt_lt (s k : Nat) : seedAt s k < M := Nat.mod_lt _ M_pos
theorem seedAt_zero (s : Nat) (h : s < M) : seedAt s 0 = s := by unfold seedAt; rw [Nat.zero_mul, Nat.add_zero, Nat.mod_eq_of_lt h]
theorem seedAt_succ (s k : Nat) : nextSeed (seedAt s k) = seedAt s (k + 1) := by
  unfold seedAt nextSeed
  rw [Nat.mod_add_mod, Nat.succ_mul, Nat.add_assoc]
theorem step_inv : step * 17428512612931826493 % M = 1 := by unfold step M; rfl
theorem seedAt_inj (s j k : Nat) (hj : j < M) (hk : k < M) (h : seedAt s j = seedAt s k) : j = k := by
  refine mul_inj step 17428512612931826493 j k step_inv hj hk ?_
  unfold seedAt at h
  have e : ∀ c a b : Nat, (c + a) % M = (c + b) % M → a % M = b % M := by
    intro c a b h
    unfold M at *
    omega
  exact e _ _ _ h
end Go.Proofs.YtfeemiamjmmolaaDoor.Rand
