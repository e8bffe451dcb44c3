/- Package pacer over plain integers: what sending a packet makes of a pacer, and the laws of it. -/
namespace Go.Proofs.Ytgfcoahlmbjjoaa.Pc

def validB (n r : Int) : Bool := decide (0 ≤ n) && decide (n ≤ 40000000) && decide (0 ≤ r) && decide (r ≤ 999999)
def timeB (n : Int) : Bool := decide (0 ≤ n) && decide (n ≤ 20000000)
def rateB (n : Int) : Bool := decide (1 ≤ n) && decide (n ≤ 1000000)
def sizeB (n : Int) : Bool := decide (1 ≤ n) && decide (n ≤ 10000)
def readyB (n r now : Int) : Bool := validB n r && timeB now && decide (n ≤ now)
/-- What a packet takes, with the rest. -/
def amt (n r now size rate : Int) : Int := 1000 * size + (if now = n ∧ r < rate then r else 0)
def send (n r now size rate : Int) : Int × Int × Int :=
  if validB n r = true ∧ timeB now = true ∧ sizeB size = true ∧ rateB rate = true then
    (if now < n then (0, 0, 18) else (now + amt n r now size rate / rate, amt n r now size rate % rate, 0)) else (0, 0, 1)

theorem validB_iff (n r : Int) : validB n r = true ↔ 0 ≤ n ∧ n ≤ 40000000 ∧ 0 ≤ r ∧ r ≤ 999999 := by simp [validB, and_assoc]
theorem timeB_iff (n : Int) : timeB n = true ↔ 0 ≤ n ∧ n ≤ 20000000 := by simp [timeB]
theorem rateB_iff (n : Int) : rateB n = true ↔ 1 ≤ n ∧ n ≤ 1000000 := by simp [rateB]
theorem sizeB_iff (n : Int) : sizeB n = true ↔ 1 ≤ n ∧ n ≤ 10000 := by simp [sizeB]
theorem readyB_iff (n r now : Int) : readyB n r now = true ↔ (0 ≤ n ∧ n ≤ 40000000 ∧ 0 ≤ r ∧ r ≤ 999999) ∧ (0 ≤ now ∧ now ≤ 20000000) ∧ n ≤ now := by
  simp only [readyB, Bool.and_eq_true, validB_iff, timeB_iff, decide_eq_true_eq, and_assoc]

/-- Division by a number from 1 on. -/
theorem dm (a b : Int) (hb : 1 ≤ b) : a = b * (a / b) + a % b ∧ 0 ≤ a % b ∧ a % b < b := ⟨(Int.mul_ediv_add_emod a b).symm, Int.emod_nonneg _ (by omega), Int.emod_lt_of_pos _ (by omega)⟩
theorem div_le (a b : Int) (ha : 0 ≤ a) (hb : 1 ≤ b) : 0 ≤ a / b ∧ a / b ≤ a := ⟨Int.ediv_nonneg ha (by omega), Int.ediv_le_self _ ha⟩
theorem uniq (b q r q' r' : Int) (hb : 1 ≤ b) (h : b * q + r = b * q' + r') (h1 : 0 ≤ r) (h2 : r < b) (h3 : 0 ≤ r') (h4 : r' < b) : q = q' ∧ r = r' := by
  have e1 : (b * q + r) / b = q := by rw [Int.mul_add_ediv_left _ _ (by omega), Int.ediv_eq_zero_of_lt h1 h2, Int.add_zero]
  have e2 : (b * q' + r') / b = q' := by rw [Int.mul_add_ediv_left _ _ (by omega), Int.ediv_eq_zero_of_lt h3 h4, Int.add_zero]
  have e3 : q = q' := by rw [← e1, ← e2, h]
  subst e3
  exact ⟨rfl, by omega⟩

theorem amt_bd {n r now size rate : Int} (hv : 0 ≤ r ∧ r ≤ 999999) (hs : 1 ≤ size ∧ size ≤ 10000) : 1000 ≤ amt n r now size rate ∧ amt n r now size rate ≤ 10999999 := by
  unfold amt; split <;> omega

/-- What a packet that is sent leaves. -/
theorem send_ok {n r now size rate : Int} (hv : validB n r = true) (ht : timeB now = true) (hs : sizeB size = true) (hr : rateB rate = true) (h : n ≤ now) :
    send n r now size rate = (now + amt n r now size rate / rate, amt n r now size rate % rate, 0) := by
  unfold send
  rw [if_pos ⟨hv, ht, hs, hr⟩, if_neg (by omega)]
theorem send_cases (n r now size rate : Int) :
    ((send n r now size rate).2.2 = 0 ∧ validB n r = true ∧ timeB now = true ∧ sizeB size = true ∧ rateB rate = true ∧ n ≤ now) ∨ send n r now size rate = (0, 0, 1) ∨ (send n r now size rate = (0, 0, 18) ∧ readyB n r now = false) := by
  unfold send
  by_cases h : validB n r = true ∧ timeB now = true ∧ sizeB size = true ∧ rateB rate = true
  · rw [if_pos h]
    by_cases hn : now < n
    · rw [if_pos hn]
      refine .inr (.inr ⟨rfl, ?_⟩)
      unfold readyB
      rw [Bool.and_eq_false_iff]
      exact .inr (by simp; omega)
    · rw [if_neg hn]
      exact .inl ⟨rfl, h.1, h.2.1, h.2.2.1, h.2.2.2, by omega⟩
  · rw [if_neg h]
    exact .inr (.inl rfl)
theorem send_res {n r now size rate : Int} (h : (send n r now size rate).2.2 = 0) :
    send n r now size rate = (now + amt n r now size rate / rate, amt n r now size rate % rate, 0) := by
  rcases send_cases n r now size rate with h1 | h1 | h1
  · exact send_ok h1.2.1 h1.2.2.1 h1.2.2.2.1 h1.2.2.2.2.1 h1.2.2.2.2.2
  · rw [h1] at h; simp at h
  · rw [h1.1] at h; simp at h
/-- The new pacer is valid, and not ready before. -/
theorem send_bd {n r now size rate : Int} (h : (send n r now size rate).2.2 = 0) :
    validB (send n r now size rate).1 (send n r now size rate).2.1 = true ∧ (send n r now size rate).2.1 < rate ∧ now ≤ (send n r now size rate).1 := by
  rcases send_cases n r now size rate with h1 | h1 | h1
  · rw [send_res h]
    obtain ⟨_, hv, ht, hs, hr, hn⟩ := h1
    rw [validB_iff] at hv
    rw [timeB_iff] at ht
    rw [sizeB_iff] at hs
    rw [rateB_iff] at hr
    have ha := amt_bd (n := n) (now := now) (rate := rate) hv.2.2 hs
    have hd := dm (amt n r now size rate) rate hr.1
    have hl := div_le (amt n r now size rate) rate (by omega) hr.1
    rw [validB_iff]
    dsimp only
    omega
  · rw [h1] at h; simp at h
  · rw [h1.1] at h; simp at h

/-- One packet more that is sent at once, of some that were sent at once. -/
theorem exact_step {b sum s rate : Int} (hb : 0 ≤ b) (hr : 1 ≤ rate ∧ rate ≤ 1000000) (hs : 1 ≤ s ∧ s ≤ 10000) (hsum : 0 ≤ sum) (hn : b + sum / rate ≤ 20000000) :
    send (b + sum / rate) (sum % rate) (b + sum / rate) s rate = (b + (sum + 1000 * s) / rate, (sum + 1000 * s) % rate, 0) := by
  have hd := dm sum rate hr.1
  have hl := div_le sum rate hsum hr.1
  rw [send_ok (by rw [validB_iff]; omega) (by rw [timeB_iff]; omega) (by rw [sizeB_iff]; omega) (by rw [rateB_iff]; omega) (by omega)]
  have ha : amt (b + sum / rate) (sum % rate) (b + sum / rate) s rate = 1000 * s + sum % rate := by
    unfold amt; rw [if_pos ⟨rfl, hd.2.2⟩]
  rw [ha]
  have d1 := dm (1000 * s + sum % rate) rate hr.1
  have d2 := dm (sum + 1000 * s) rate hr.1
  have e : rate * (sum / rate + (1000 * s + sum % rate) / rate) + (1000 * s + sum % rate) % rate = rate * ((sum + 1000 * s) / rate) + (sum + 1000 * s) % rate := by
    rw [Int.mul_add]; omega
  obtain ⟨e1, e2⟩ := uniq rate _ _ _ _ hr.1 e d1.2.1 d1.2.2 d2.2.1 d2.2.2
  rw [e2, ← e1]
  congr 1
  omega

/-- What a pacer has let through, in bytes times 1000: it only grows, by what is sent. -/
theorem fast_step {n r now s rate : Int} (hv : validB n r = true) (hr : 1 ≤ rate ∧ rate ≤ 1000000) (hs : 1 ≤ s ∧ s ≤ 10000) (hrest : r < rate) (h1 : n ≤ now) (h2 : now ≤ 20000000) :
    ∃ q u : Int, send n r now s rate = (q, u, 0) ∧ validB q u = true ∧ u < rate ∧ now ≤ q ∧ rate * n + r + 1000 * s ≤ rate * q + u ∧ rate * now + 1000 * s ≤ rate * q + u := by
  have hv' := (validB_iff n r).1 hv
  have hok := send_ok (n := n) (r := r) (now := now) (size := s) (rate := rate) hv (by rw [timeB_iff]; omega) (by rw [sizeB_iff]; omega) (by rw [rateB_iff]; omega) h1
  have hbd := send_bd (n := n) (r := r) (now := now) (size := s) (rate := rate) (by rw [hok])
  rw [hok] at hbd
  refine ⟨_, _, hok, hbd.1, hbd.2.1, hbd.2.2, ?_, ?_⟩
  · have hd := dm (amt n r now s rate) rate hr.1
    have e : rate * (now + amt n r now s rate / rate) + amt n r now s rate % rate = rate * now + amt n r now s rate := by rw [Int.mul_add]; omega
    rw [e]
    unfold amt
    by_cases hc : now = n
    · rw [if_pos ⟨hc, hrest⟩, hc]; omega
    · rw [if_neg (fun h => hc h.1)]
      have h3 : rate * (n + 1) ≤ rate * now := Int.mul_le_mul_of_nonneg_left (by omega) (by omega)
      rw [Int.mul_add, Int.mul_one] at h3
      omega
  · have hd := dm (amt n r now s rate) rate hr.1
    have e : rate * (now + amt n r now s rate / rate) + amt n r now s rate % rate = rate * now + amt n r now s rate := by rw [Int.mul_add]; omega
    rw [e]
    unfold amt
    split <;> omega

/-- Without a rest that counts. -/
theorem late {n r now size rate : Int} (hv : validB n r = true) (h : n < now) : send n r now size rate = send now 0 now size rate := by
  by_cases hc : timeB now = true ∧ sizeB size = true ∧ rateB rate = true
  · have ht := (timeB_iff now).1 hc.1
    rw [send_ok hv hc.1 hc.2.1 hc.2.2 (by omega), send_ok (by rw [validB_iff]; omega) hc.1 hc.2.1 hc.2.2 (by omega)]
    have e1 : amt n r now size rate = 1000 * size := by unfold amt; rw [if_neg (by omega), Int.add_zero]
    have e2 : amt now 0 now size rate = 1000 * size := by unfold amt; split <;> simp
    rw [e1, e2]
  · have e : ∀ x y, send x y now size rate = (0, 0, 1) := by
      intro x y
      unfold send
      rw [if_neg (fun h => hc h.2)]
    rw [e, e]

/-- Two packets at once are one with the bytes of both. -/
theorem parts {n r a b rate : Int} (hv : validB n r = true) (ha : 1 ≤ a ∧ a ≤ 5000) (hb : 1 ≤ b ∧ b ≤ 5000) (h : (send n r n a rate).2.2 = 0) (hn : (send n r n a rate).1 ≤ 20000000) :
    (send (send n r n a rate).1 (send n r n a rate).2.1 (send n r n a rate).1 b rate).2.2 = 0 ∧
    send (send n r n a rate).1 (send n r n a rate).2.1 (send n r n a rate).1 b rate = send n r n (a + b) rate := by
  have hbd := send_bd h
  have hres := send_res h
  rcases send_cases n r n a rate with h1 | h1 | h1
  · obtain ⟨_, _, ht, hs, hr, _⟩ := h1
    generalize hA : amt n r n a rate = A at hres
    rw [hres] at hbd hn ⊢
    dsimp only at hbd hn ⊢
    have ht' := (timeB_iff n).1 ht
    have hr' := (rateB_iff rate).1 hr
    have hv' := (validB_iff n r).1 hv
    have dA := dm A rate hr'.1
    have hA2 := amt_bd (n := n) (now := n) (rate := rate) hv'.2.2 ((sizeB_iff a).1 hs)
    have lA := div_le A rate (by omega) hr'.1
    have ok2 := send_ok (n := n + A / rate) (r := A % rate) (now := n + A / rate) (size := b) (rate := rate) hbd.1 (by rw [timeB_iff]; omega) (by rw [sizeB_iff]; omega) hr (by omega)
    have ok3 := send_ok (n := n) (r := r) (now := n) (size := a + b) (rate := rate) hv ht (by rw [sizeB_iff]; omega) hr (by omega)
    rw [ok2, ok3]
    refine ⟨rfl, ?_⟩
    have eB : amt (n + A / rate) (A % rate) (n + A / rate) b rate = 1000 * b + A % rate := by unfold amt; rw [if_pos ⟨rfl, dA.2.2⟩]
    have eC : amt n r n (a + b) rate = A + 1000 * b := by
      rw [← hA]; unfold amt; omega
    rw [eB, eC]
    have d1 := dm (1000 * b + A % rate) rate hr'.1
    have d2 := dm (A + 1000 * b) rate hr'.1
    have e : rate * (A / rate + (1000 * b + A % rate) / rate) + (1000 * b + A % rate) % rate = rate * ((A + 1000 * b) / rate) + (A + 1000 * b) % rate := by
      rw [Int.mul_add]; omega
    obtain ⟨e1, e2⟩ := uniq rate _ _ _ _ hr'.1 e d1.2.1 d1.2.2 d2.2.1 d2.2.2
    rw [e2, ← e1]
    congr 1
    omega
  · rw [h1] at h; simp at h
  · rw [h1.1] at h; simp at h

/-- Less, and faster: no later. -/
theorem less {now size d rate m : Int} (hd : 0 ≤ d) (hm : 0 ≤ m) (h : (send 0 0 now size rate).2.2 = 0) (k : (send 0 0 now (size - d) (rate + m)).2.2 = 0) :
    (send 0 0 now (size - d) (rate + m)).1 ≤ (send 0 0 now size rate).1 := by
  rw [send_res h, send_res k]
  rcases send_cases 0 0 now size rate with h1 | h1 | h1
  · rcases send_cases 0 0 now (size - d) (rate + m) with k1 | k1 | k1
    · have hr := (rateB_iff _).1 h1.2.2.2.2.1
      have hs := (sizeB_iff _).1 k1.2.2.2.1
      have ea : ∀ s r : Int, amt 0 0 now s r = 1000 * s := by intro s r; unfold amt; split <;> simp
      rw [ea, ea]
      dsimp only
      have h2 : (1000 * (size - d)) / (rate + m) ≤ (1000 * (size - d)) / rate := by
        have d1 := dm (1000 * (size - d)) (rate + m) (by omega)
        have d2 := dm (1000 * (size - d)) rate (by omega)
        have q0 : 0 ≤ (1000 * (size - d)) / (rate + m) := Int.ediv_nonneg (by omega) (by omega)
        have : rate * ((1000 * (size - d)) / (rate + m)) ≤ 1000 * (size - d) := by
          have h3 : 0 ≤ m * ((1000 * (size - d)) / (rate + m)) := Int.mul_nonneg hm q0
          rw [Int.add_mul] at d1
          omega
        rw [Int.le_ediv_iff_mul_le (by omega), Int.mul_comm]
        exact this
      have h3 : (1000 * (size - d)) / rate ≤ (1000 * size) / rate := Int.ediv_le_ediv (by omega) (by omega)
      omega
    · rw [k1] at k; simp at k
    · rw [k1.1] at k; simp at k
  · rw [h1] at h; simp at h
  · rw [h1.1] at h; simp at h
end Go.Proofs.Ytgfcoahlmbjjoaa.Pc
