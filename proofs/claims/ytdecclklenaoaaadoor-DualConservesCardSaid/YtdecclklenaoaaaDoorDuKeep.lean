/- The packets that came are those that wait, were taken or were dropped: plain law of DualConserves. -/
import Derived.Test.YtdecclklenaoaaaDoorDuQ
namespace Go.Proofs.YtdecclklenaoaaaDoor.Du
open Ea

def plainP (p : Ea.Pkt) : Ea.Pkt := { p with marked := false }
def ps (xs : List Ea.Item) : List Ea.Pkt := xs.map (·.p)
def nums (l : List Ea.Pkt) : List Int := l.map (·.number)
def only (b : Bool) (l : List Ea.Pkt) : List Ea.Pkt := l.filter (fun p => p.able == b)
def still (gone : List Int) (l : List Ea.Pkt) : List Ea.Pkt := l.filter (fun p => !gone.contains p.number)
/-- What holds behind i calls. -/
structure Keep (i : Nat) (xs ys : List Ea.Item) (came taken : List Ea.Pkt) (gone : List Int) : Prop where
  low : ∀ p ∈ came, p.marked = false ∧ 0 ≤ p.number ∧ p.number < i
  apart : came.Pairwise (fun p q => p.number ≠ q.number)
  small : ∀ k ∈ gone, 0 ≤ k ∧ k < i
  plain : ∀ y ∈ ys, y.p.marked = false
  one : still gone (only true came) = (only true taken ++ ps xs).map plainP
  two : still gone (only false came) = (only false taken ++ ps ys).map plainP
theorem Keep.start : Keep 0 [] [] [] [] [] :=
  ⟨fun _ h => absurd h (by simp), List.Pairwise.nil, fun _ h => absurd h (by simp), fun _ h => absurd h (by simp), rfl, rfl⟩
theorem still_append (gone : List Int) (a b : List Ea.Pkt) : still gone (a ++ b) = still gone a ++ still gone b := List.filter_append ..
theorem only_append (c : Bool) (a b : List Ea.Pkt) : only c (a ++ b) = only c a ++ only c b := List.filter_append ..
theorem still_more (gone more : List Int) (l : List Ea.Pkt) : still (gone ++ more) l = still more (still gone l) := by
  unfold still
  rw [List.filter_filter]
  congr 1
  funext p
  simp only [List.contains_eq_mem, List.mem_append, Bool.decide_or]
  cases decide (p.number ∈ gone) <;> cases decide (p.number ∈ more) <;> rfl
theorem still_none (l : List Ea.Pkt) : still [] l = l := by
  unfold still
  rw [List.filter_eq_self]
  simp
theorem still_all {gone : List Int} {l : List Ea.Pkt} (h : ∀ p ∈ l, p.number ∉ gone) : still gone l = l := by
  unfold still
  rw [List.filter_eq_self]
  intro p hp
  simp [h p hp]
theorem mem_still {gone : List Int} {l : List Ea.Pkt} {p : Ea.Pkt} : p ∈ still gone l ↔ p ∈ l ∧ p.number ∉ gone := by
  unfold still
  simp
theorem mem_only {b : Bool} {l : List Ea.Pkt} {p : Ea.Pkt} : p ∈ only b l ↔ p ∈ l ∧ p.able = b := by
  unfold only
  simp
theorem plain_number (p : Ea.Pkt) : (plainP p).number = p.number := rfl
theorem plain_able (p : Ea.Pkt) : (plainP p).able = p.able := rfl
theorem plain_of {p : Ea.Pkt} (h : p.marked = false) : plainP p = p := by
  obtain ⟨a, b, c, d, e, f, g, m⟩ := p
  simp only at h
  subst h
  rfl
/-- What is struck out of the middle. -/
theorem still_mid {a d b : List Ea.Pkt} (h : (a ++ (d ++ b)).Pairwise (fun p q => p.number ≠ q.number)) : still (nums d) (a ++ (d ++ b)) = a ++ b := by
  rw [still_append, still_append]
  rw [List.pairwise_append, List.pairwise_append] at h
  obtain ⟨_, ⟨_, _, h2⟩, h3⟩ := h
  have e1 : still (nums d) a = a := still_all fun p hp hm => by
    obtain ⟨q, hq, e⟩ := List.mem_map.1 hm
    exact h3 p hp q (List.mem_append_left _ hq) e.symm
  have e2 : still (nums d) d = [] := by
    unfold still
    rw [List.filter_eq_nil_iff]
    intro p hp
    have : p.number ∈ nums d := List.mem_map.2 ⟨p, hp, rfl⟩
    simp [this]
  have e3 : still (nums d) b = b := still_all fun p hp hm => by
    obtain ⟨q, hq, e⟩ := List.mem_map.1 hm
    exact h2 q hq p hp e
  rw [e1, e2, e3, List.nil_append]
theorem pairwise_filter {l : List Ea.Pkt} (f : Ea.Pkt → Bool) (h : l.Pairwise (fun p q => p.number ≠ q.number)) : (l.filter f).Pairwise (fun p q => p.number ≠ q.number) := h.sublist List.filter_sublist
/-- Numbers that stay are apart. -/
theorem stay_apart {gone : List Int} {came l : List Ea.Pkt} {b : Bool} (h : came.Pairwise (fun p q => p.number ≠ q.number)) (e : still gone (only b came) = l.map plainP) : l.Pairwise (fun p q => p.number ≠ q.number) := by
  have h1 : (still gone (only b came)).Pairwise (fun p q => p.number ≠ q.number) := pairwise_filter _ (pairwise_filter _ h)
  rw [e, List.pairwise_map] at h1
  exact h1
theorem stay_in {gone : List Int} {came l : List Ea.Pkt} {b : Bool} (e : still gone (only b came) = l.map plainP) {p : Ea.Pkt} (hp : p ∈ l) : plainP p ∈ came ∧ p.able = b ∧ p.number ∉ gone := by
  have h1 : plainP p ∈ still gone (only b came) := by
    rw [e]
    exact List.mem_map.2 ⟨p, hp, rfl⟩
  obtain ⟨h2, h3⟩ := mem_still.1 h1
  obtain ⟨h4, h5⟩ := mem_only.1 h2
  exact ⟨h4, h5, h3⟩
/-- A packet comes. -/
theorem keep_put {i : Nat} {xs ys : List Ea.Item} {came taken : List Ea.Pkt} {gone : List Int} (h : Keep i xs ys came taken gone) {p : Ea.Pkt} (hm : p.marked = false) (hn : p.number = i) {room now : Int} {xs' ys' : List Ea.Item} {drops : List Ea.Pkt} (e : putX room xs ys p now = (xs', ys', drops)) :
    Keep (i + 1) xs' ys' (came ++ [p]) taken (gone ++ nums drops) ∧ (∀ d ∈ drops, d.number ∉ gone) ∧ drops.length ≤ 1 := by
  have hlow : ∀ q ∈ came ++ [p], q.marked = false ∧ 0 ≤ q.number ∧ q.number < ((i + 1 : Nat) : Int) := fun q hq => by
    rcases List.mem_append.1 hq with hq | hq
    · obtain ⟨h1, h2, h3⟩ := h.low q hq
      exact ⟨h1, h2, by omega⟩
    · rw [List.mem_singleton] at hq
      subst hq
      exact ⟨hm, by omega, by omega⟩
  have hap : (came ++ [p]).Pairwise (fun p q => p.number ≠ q.number) := by
    rw [List.pairwise_append]
    refine ⟨h.apart, List.pairwise_singleton _ _, fun a ha b hb => ?_⟩
    rw [List.mem_singleton] at hb
    subst hb
    have := (h.low a ha).2.2
    omega
  have hng : p.number ∉ gone := fun hc => by
    have := (h.small _ hc).2
    omega
  have hsm : ∀ k ∈ gone, 0 ≤ k ∧ k < ((i + 1 : Nat) : Int) := fun k hk => by
    have := h.small k hk
    omega
  unfold putX at e
  split at e
  · injection e with e1 e; injection e with e2 e3; subst e1 e2 e3
    refine ⟨⟨hlow, hap, fun k hk => ?_, h.plain, ?_, ?_⟩, fun d hd => ?_, by simp⟩
    · rcases List.mem_append.1 hk with hk | hk
      · exact hsm k hk
      · simp only [nums, List.map_cons, List.map_nil, List.mem_singleton] at hk
        omega
    · have e1 : still (nums [p]) (still gone (only true came)) = still gone (only true came) := still_all fun q hq hc => by
        have h1 := (h.low q (mem_only.1 (mem_still.1 hq).1).1).2.2
        simp only [nums, List.map_cons, List.map_nil, List.mem_singleton] at hc
        omega
      have e2 : still (nums [p]) (still gone (only true [p])) = [] := by
        rw [still, List.filter_eq_nil_iff]
        intro q hq
        have h1 : q = p := by
          have := (mem_only.1 (mem_still.1 hq).1).1
          simpa using this
        subst h1
        simp [nums]
      rw [only_append, still_append, still_more, still_more, e1, e2, List.append_nil, h.one]
    · have e1 : still (nums [p]) (still gone (only false came)) = still gone (only false came) := still_all fun q hq hc => by
        have h1 := (h.low q (mem_only.1 (mem_still.1 hq).1).1).2.2
        simp only [nums, List.map_cons, List.map_nil, List.mem_singleton] at hc
        omega
      have e2 : still (nums [p]) (still gone (only false [p])) = [] := by
        rw [still, List.filter_eq_nil_iff]
        intro q hq
        have h1 : q = p := by
          have := (mem_only.1 (mem_still.1 hq).1).1
          simpa using this
        subst h1
        simp [nums]
      rw [only_append, still_append, still_more, still_more, e1, e2, List.append_nil, h.two]
    · rw [List.mem_singleton] at hd
      subst hd
      exact hng
  · have hst : still gone [p] = [p] := still_all fun q hq => by
      rw [List.mem_singleton] at hq
      subst hq
      exact hng
    split at e
    · rename_i ha
      injection e with e1 e; injection e with e2 e3; subst e1 e2 e3
      have o1 : only true [p] = [p] := by simp [only, ha]
      have o2 : only false [p] = [] := by simp [only, ha]
      refine ⟨⟨hlow, hap, ?_, h.plain, ?_, ?_⟩, fun d hd => absurd hd (by simp), by simp⟩
      · simpa [nums] using hsm
      · simp only [nums, List.map_nil, List.append_nil]
        rw [only_append, still_append, o1, hst, h.one]
        simp [ps, plain_of hm]
      · simp only [nums, List.map_nil, List.append_nil]
        rw [only_append, still_append, o2, h.two]
        simp [still]
    · rename_i ha
      have ha' : p.able = false := by simpa using ha
      injection e with e1 e; injection e with e2 e3; subst e1 e2 e3
      have o1 : only true [p] = [] := by simp [only, ha']
      have o2 : only false [p] = [p] := by simp [only, ha']
      refine ⟨⟨hlow, hap, ?_, fun y hy => ?_, ?_, ?_⟩, fun d hd => absurd hd (by simp), by simp⟩
      · simpa [nums] using hsm
      · rcases List.mem_append.1 hy with hy | hy
        · exact h.plain y hy
        · rw [List.mem_singleton] at hy
          subst hy
          exact hm
      · simp only [nums, List.map_nil, List.append_nil]
        rw [only_append, still_append, o1, h.one]
        simp [still]
      · simp only [nums, List.map_nil, List.append_nil]
        rw [only_append, still_append, o2, hst, h.two]
        simp [ps, plain_of hm]
/-- What Take leaves, in one line. -/
structure Gives (xs ys : List Ea.Item) (drops : List Ea.Pkt) (o : Out) (ds mid : List Ea.Item) : Prop where
  cut : ys = ds ++ mid
  dr : o.drops = drops ++ ps ds
  got : (o.got = none ∧ xs = [] ∧ mid = [] ∧ o.xs = [] ∧ o.ys = []) ∨ (∃ x m, xs = x :: o.xs ∧ o.ys = mid ∧ o.got = some { x.p with marked := m }) ∨ (∃ y, mid = y :: o.ys ∧ o.xs = xs ∧ o.got = some y.p)
theorem gives_more {xs ys : List Ea.Item} {y : Ea.Item} {drops : List Ea.Pkt} {o : Out} (h : ∃ ds mid, Gives xs ys (drops ++ [y.p]) o ds mid) : ∃ ds mid, Gives xs (y :: ys) drops o ds mid := by
  obtain ⟨ds, mid, h1, h2, h3⟩ := h
  exact ⟨y :: ds, mid, by rw [h1]; rfl, by rw [h2]; simp [ps], h3⟩
theorem mark_eq (p : Ea.Pkt) : p = { p with marked := p.marked } := rfl
theorem take_gives (A B now : Int) : ∀ (ys xs : List Ea.Item) (row : Int) (s : Nat) (drops : List Ea.Pkt), ∃ ds mid, Gives xs ys drops (take A B now xs ys row s drops) ds mid
  | [], [], row, s, drops => by
    rw [take]
    exact ⟨[], [], rfl, by simp [ps], Or.inl ⟨rfl, rfl, rfl, rfl, rfl⟩⟩
  | [], x :: xs, row, s, drops => by
    rw [take]
    split
    · exact ⟨[], [], rfl, by simp [ps], Or.inr (Or.inl ⟨x, true, rfl, rfl, rfl⟩)⟩
    · by_cases h : rnd s < 0
      · exact ⟨[], [], rfl, by simp [ps], Or.inr (Or.inl ⟨x, true, rfl, rfl, by simp only [if_pos h]⟩)⟩
      · exact ⟨[], [], rfl, by simp [ps], Or.inr (Or.inl ⟨x, x.p.marked, rfl, rfl, by simp only [if_neg h]⟩)⟩
  | y :: ys, [], row, s, drops => by
    rw [take]
    split
    · exact gives_more (take_gives A B now ys [] 0 _ _)
    · exact ⟨[], y :: ys, rfl, by simp [ps], Or.inr (Or.inr ⟨y, rfl, rfl, rfl⟩)⟩
  | y :: ys, x :: xs, row, s, drops => by
    rw [take]
    split
    · split
      · exact gives_more (take_gives A B now ys (x :: xs) 0 _ _)
      · exact ⟨[], y :: ys, rfl, by simp [ps], Or.inr (Or.inr ⟨y, rfl, rfl, rfl⟩)⟩
    · split
      · exact ⟨[], y :: ys, rfl, by simp [ps], Or.inr (Or.inl ⟨x, true, rfl, rfl, rfl⟩)⟩
      · by_cases h : rnd s < 2 * press B now (y :: ys)
        · exact ⟨[], y :: ys, rfl, by simp [ps], Or.inr (Or.inl ⟨x, true, rfl, rfl, by simp only [if_pos h]⟩)⟩
        · exact ⟨[], y :: ys, rfl, by simp [ps], Or.inr (Or.inl ⟨x, x.p.marked, rfl, rfl, by simp only [if_neg h]⟩)⟩
theorem ps_append (a b : List Ea.Item) : ps (a ++ b) = ps a ++ ps b := by simp [ps]
theorem nums_plain (l : List Ea.Pkt) : nums (l.map plainP) = nums l := by simp [nums, Function.comp_def, plain_number]
theorem apart_eq {l : List Ea.Pkt} (h : l.Pairwise (fun p q => p.number ≠ q.number)) {p q : Ea.Pkt} (hp : p ∈ l) (hq : q ∈ l) (e : p.number = q.number) : p = q := by
  induction l with
  | nil => exact absurd hp (by simp)
  | cons x l ih =>
    rw [List.pairwise_cons] at h
    rcases List.mem_cons.1 hp with h1 | h1
    · rcases List.mem_cons.1 hq with h2 | h2
      · rw [h1, h2]
      · exact absurd (by rw [← h1]; exact e) (h.1 _ h2)
    · rcases List.mem_cons.1 hq with h2 | h2
      · exact absurd (by rw [← h2]; exact e.symm) (h.1 _ h1)
      · exact ih h.2 h1 h2
/-- A packet is taken. -/
theorem keep_take {i : Nat} {xs ys : List Ea.Item} {came taken : List Ea.Pkt} {gone : List Int} (h : Keep i xs ys came taken gone) {A B now row : Int} {s : Nat} {xs' ys' : List Ea.Item} {row' : Int} {s' : Nat} {got : Option Ea.Pkt} {drops : List Ea.Pkt} (e : take A B now xs ys row s [] = ⟨xs', ys', row', s', got, drops⟩) :
    Keep (i + 1) xs' ys' came (taken ++ got.toList) (gone ++ nums drops) ∧ (∀ d ∈ drops, d.number ∉ gone) ∧ drops.Pairwise (fun p q => p.number ≠ q.number) ∧ (∀ d ∈ drops, d.able = false) ∧ (∀ p, got = some p → p.able = false → p.marked = false) := by
  obtain ⟨ds, mid, hcut, hdr, hgot⟩ := take_gives A B now ys xs row s []
  rw [e] at hdr hgot
  simp only [List.nil_append] at hdr hgot
  subst hdr
  have a2 := stay_apart h.apart h.two
  have a1 := stay_apart h.apart h.one
  rw [hcut, ps_append] at a2
  have hin : ∀ d ∈ ps ds, d ∈ only false taken ++ ps ys := fun d hd => by
    rw [hcut, ps_append]
    simp [hd]
  have hdg : ∀ d ∈ ps ds, d.number ∉ gone := fun d hd => (stay_in h.two (hin d hd)).2.2
  have hda : ∀ d ∈ ps ds, d.able = false := fun d hd => (stay_in h.two (hin d hd)).2.1
  have hdc : ∀ d ∈ ps ds, plainP d ∈ came := fun d hd => (stay_in h.two (hin d hd)).1
  have hdp : (ps ds).Pairwise (fun p q => p.number ≠ q.number) := by
    rw [List.pairwise_append, List.pairwise_append] at a2
    exact a2.2.1.1
  -- the first kind loses none
  have e1 : still (gone ++ nums (ps ds)) (only true came) = (only true taken ++ ps xs).map plainP := by
    rw [still_more, ← h.one]
    refine still_all fun q hq hc => ?_
    obtain ⟨q1, q2⟩ := mem_only.1 (mem_still.1 hq).1
    obtain ⟨d, hd, hn⟩ := List.mem_map.1 hc
    have hne : q ≠ plainP d := fun e => by
      have := hda d hd
      rw [e, plain_able, this] at q2
      cases q2
    exact hne (apart_eq h.apart q1 (hdc d hd) (by rw [plain_number, hn]))
  have e2 : still (gone ++ nums (ps ds)) (only false came) = (only false taken ++ ps mid).map plainP := by
    rw [still_more, h.two, hcut, ps_append, List.map_append, List.map_append, List.map_append, ← nums_plain]
    refine still_mid ?_
    rw [← List.map_append, ← List.map_append, List.pairwise_map]
    exact a2
  have hsm : ∀ k ∈ gone ++ nums (ps ds), 0 ≤ k ∧ k < ((i + 1 : Nat) : Int) := fun k hk => by
    rcases List.mem_append.1 hk with hk | hk
    · have := h.small k hk
      omega
    · obtain ⟨d, hd, rfl⟩ := List.mem_map.1 hk
      have := (h.low _ (hdc d hd)).2
      rw [plain_number] at this
      omega
  have hlow : ∀ q ∈ came, q.marked = false ∧ 0 ≤ q.number ∧ q.number < ((i + 1 : Nat) : Int) := fun q hq => by
    obtain ⟨h1, h2, h3⟩ := h.low q hq
    exact ⟨h1, h2, by omega⟩
  have hpl : ∀ y ∈ mid, y.p.marked = false := fun y hy => h.plain y (by rw [hcut]; simp [hy])
  rcases hgot with ⟨rfl, rfl, rfl, rfl, rfl⟩ | ⟨x, m, rfl, rfl, rfl⟩ | ⟨y, rfl, rfl, rfl⟩
  · refine ⟨⟨hlow, h.apart, hsm, hpl, ?_, ?_⟩, hdg, hdp, hda, fun p hp => by cases hp⟩
    · simpa using e1
    · simpa using e2
  · have hxa : x.p.able = true := (stay_in h.one (p := x.p) (by simp [ps])).2.1
    refine ⟨⟨hlow, h.apart, hsm, hpl, ?_, ?_⟩, hdg, hdp, hda, fun p hp ha => by injection hp with hp; subst hp; simp only at ha; rw [hxa] at ha; cases ha⟩
    · rw [e1]
      simp [only, hxa, ps, plainP]
    · rw [e2]
      simp [only, hxa, ps]
  · have hya : y.p.able = false := (stay_in h.two (p := y.p) (by rw [hcut]; simp [ps])).2.1
    have hym := hpl y (by simp)
    refine ⟨⟨hlow, h.apart, hsm, fun z hz => hpl z (List.mem_cons_of_mem _ hz), ?_, ?_⟩, hdg, hdp, hda, fun p hp _ => by injection hp with hp; subst hp; exact hym⟩
    · rw [e1]
      simp [only, hya, ps]
    · rw [e2]
      simp [only, hya, ps, plainP]
end Go.Proofs.YtdecclklenaoaaaDoor.Du
