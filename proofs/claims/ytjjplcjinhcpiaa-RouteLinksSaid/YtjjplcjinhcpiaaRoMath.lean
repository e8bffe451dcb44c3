/- Package route over plain lists: what is wrong with a path, with paths; what a trip takes; which paths use a link. -/
namespace Go.Proofs.Ytjjplcjinhcpiaa.Ro

def inside (n lo hi : Int) : Bool := decide (lo ≤ n) && decide (n ≤ hi)
/-- What is wrong with a path: its links, and its delay back. -/
def wrong (many : Int) (ls : List Int) (back : Int) : Int :=
  if inside ls.length 1 6 = true then
    (if ls.all (fun x => inside x 0 (many - 1)) = true then (if ls.Nodup then (if inside back 0 1000000 = true then 0 else 3) else 16) else 4)
  else 1
def firstErr (many : Int) : List (List Int × Int) → Int
  | [] => 0
  | p :: r => if wrong many p.1 p.2 = 0 then firstErr many r else wrong many p.1 p.2
def check (many : Int) (ps : List (List Int × Int)) : Int :=
  if inside many 0 8 = true then (if ps.length ≤ 16 then firstErr many ps else 2) else 1
/-- The numbers of the first k paths that use a link. -/
def throughTo (link : Int) (lss : List (List Int)) (k : Nat) : List Int := ((List.range k).filter fun i => decide (link ∈ lss.getD i [])).map Int.ofNat
def through (link : Int) (lss : List (List Int)) : List Int := throughTo link lss lss.length
def next (ls : List Int) (hop : Int) : Int × Bool := if inside hop 0 (ls.length - 1) = true then (ls.getD hop.toNat 0, true) else (0, false)
/-- What a link takes. -/
def takes (size : Int) (l : Int × Int) : Int := (1000 * size + l.1 - 1).tdiv l.1 + l.2
def fine (l : Int × Int) : Bool := inside l.1 1 1000000 && inside l.2 0 1000000
def trip (links : List (Int × Int)) (ls : List Int) (back size : Int) : Int × Int :=
  if inside size 1 10000 = true then
    (if check links.length [(ls, back)] = 0 then
      (if ls.all (fun x => fine (links.getD x.toNat (0, 0))) = true then (back + (ls.map fun x => takes size (links.getD x.toNat (0, 0))).sum, 0) else (0, 3))
    else (0, check links.length [(ls, back)]))
  else (0, 1)

theorem inside_iff (n lo hi : Int) : inside n lo hi = true ↔ lo ≤ n ∧ n ≤ hi := by simp [inside]
theorem inside_no (n lo hi : Int) : inside n lo hi = false ↔ n < lo ∨ hi < n := by
  unfold inside
  rw [Bool.and_eq_false_iff, decide_eq_false_iff_not, decide_eq_false_iff_not]
  omega
theorem next_in (ls : List Int) (k : Nat) (h : k < ls.length) : next ls k = (ls.getD k 0, true) := by
  unfold next
  rw [if_pos ((inside_iff _ _ _).2 ⟨by omega, by omega⟩)]
  rfl
theorem next_out (ls : List Int) (k : Nat) (h : ls.length ≤ k) : next ls k = (0, false) := by
  unfold next
  rw [if_neg]
  rw [inside_iff]
  omega
theorem wrong_long {many : Int} {ls : List Int} {back : Int} (h : inside ls.length 1 6 = false) : wrong many ls back = 1 := by
  unfold wrong
  rw [if_neg (by rw [h]; decide)]
theorem wrong_none {many : Int} {ls : List Int} {back : Int} (h : inside ls.length 1 6 = true) (k : ∃ x, x ∈ ls ∧ inside x 0 (many - 1) = false) : wrong many ls back = 4 := by
  obtain ⟨x, hx, k⟩ := k
  unfold wrong
  rw [if_pos h, if_neg]
  rw [List.all_eq_true]
  intro e
  have := e x hx
  rw [k] at this
  cases this
theorem wrong_all {many : Int} {ls : List Int} {back : Int} (h : inside ls.length 1 6 = true) (k : ∀ x, x ∈ ls → inside x 0 (many - 1) = true) : wrong many ls back = (if ls.Nodup then (if inside back 0 1000000 = true then 0 else 3) else 16) := by
  unfold wrong
  rw [if_pos h, if_pos (List.all_eq_true.2 k)]
theorem check_one {many : Int} {ls : List Int} {back : Int} (h : check many [(ls, back)] = 0) : inside many 0 8 = true ∧ inside ls.length 1 6 = true ∧ (∀ x, x ∈ ls → inside x 0 (many - 1) = true) ∧ ls.Nodup ∧ inside back 0 1000000 = true := by
  unfold check at h
  by_cases h1 : inside many 0 8 = true
  · rw [if_pos h1, if_pos (by simp)] at h
    unfold firstErr at h
    by_cases h2 : wrong many ls back = 0
    · refine ⟨h1, ?_⟩
      unfold wrong at h2
      by_cases h3 : inside ls.length 1 6 = true
      · rw [if_pos h3] at h2
        by_cases h4 : ls.all (fun x => inside x 0 (many - 1)) = true
        · rw [if_pos h4] at h2
          by_cases h5 : ls.Nodup
          · rw [if_pos h5] at h2
            by_cases h6 : inside back 0 1000000 = true
            · exact ⟨h3, List.all_eq_true.1 h4, h5, h6⟩
            · rw [if_neg h6] at h2; cases h2
          · rw [if_neg h5] at h2; cases h2
        · rw [if_neg h4] at h2; cases h2
      · rw [if_neg h3] at h2; cases h2
    · simp only [if_neg h2] at h
      exact absurd h h2
  · rw [if_neg h1] at h; cases h
theorem trip_ok {links : List (Int × Int)} {ls : List Int} {back size : Int} (h0 : inside size 1 10000 = true) (h : check links.length [(ls, back)] = 0) :
    trip links ls back size = (if ls.all (fun x => fine (links.getD x.toNat (0, 0))) = true then (back + (ls.map fun x => takes size (links.getD x.toNat (0, 0))).sum, 0) else (0, 3)) := by
  unfold trip
  rw [if_pos h0, if_pos h]
theorem throughTo_yes {link : Int} {lss : List (List Int)} {k : Nat} (h : link ∈ lss.getD k []) : throughTo link lss (k + 1) = throughTo link lss k ++ [(k : Int)] := by
  unfold throughTo
  rw [List.range_succ, List.filter_append, List.map_append]
  simp only [List.filter_cons, h, decide_true, if_true, List.filter_nil]
  rfl
theorem throughTo_no {link : Int} {lss : List (List Int)} {k : Nat} (h : ¬ link ∈ lss.getD k []) : throughTo link lss (k + 1) = throughTo link lss k := by
  unfold throughTo
  rw [List.range_succ, List.filter_append, List.map_append]
  simp only [List.filter_cons, h, decide_false, List.filter_nil]
  simp
theorem throughTo_length (link : Int) (lss : List (List Int)) (k : Nat) : (throughTo link lss k).length ≤ k := by
  unfold throughTo
  rw [List.length_map]
  exact Nat.le_trans (List.length_filter_le _ _) (by simp)
end Go.Proofs.Ytjjplcjinhcpiaa.Ro
