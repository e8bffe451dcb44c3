/- A copy of a slice of links: a row of the call's own, 27 cells a link; its rates and delays may be written. -/
import Derived.Test.YtjjplcjinhcpiaaRoHead
import Derived.Laws.OwnMore
namespace Go.Proofs.Ytjjplcjinhcpiaa
open Go.RowKit

def cellK (l : LinkV) (c : Nat) : Value := (linkList l.r l.d l.X).getD c undef
def flatK (n : Nat) (K : Nat → LinkV) : List Value := (List.range (n * 27)).map fun j => cellK (K (j / 27)) (j % 27)
def updK (K : Nat → LinkV) (i : Nat) (l : LinkV) : Nat → LinkV := fun k => if k = i then l else K k
def oneK (l : LinkV) : Prop := (linkList l.r l.d l.X).toArray.all (·.oneCell') = true
theorem cellK_rate (l : LinkV) (r : Int) (c : Nat) (hc : c ≠ 0) : cellK { l with r := r } c = cellK l c := by
  match c, hc with
  | c + 1, _ => rfl
theorem cellK_delay (l : LinkV) (d : Int) (c : Nat) (hc : c ≠ 1) : cellK { l with d := d } c = cellK l c := by
  match c, hc with
  | 0, _ => rfl
  | c + 2, _ => rfl
theorem cellK_get (l : LinkV) (c : Nat) (hc : c < 27) : (linkList l.r l.d l.X)[c]? = some (cellK l c) := by
  unfold cellK
  rw [List.getD_eq_getElem?_getD, List.getElem?_eq_getElem (show c < (linkList l.r l.d l.X).length from hc)]
  rfl
theorem flatK_length (n : Nat) (K : Nat → LinkV) : (flatK n K).length = n * 27 := by simp [flatK]
theorem flatK_get (n : Nat) (K : Nat → LinkV) (j : Nat) (hj : j < n * 27) : (flatK n K)[j]? = some (cellK (K (j / 27)) (j % 27)) := by
  unfold flatK
  rw [List.getElem?_map, List.getElem?_range hj]
  rfl
theorem flatK_set (n : Nat) (K : Nat → LinkV) (i c : Nat) (hi : i < n) (hc : c < 27) (l : LinkV) (u : Value) (h1 : cellK l c = u) (h2 : ∀ c', c' ≠ c → cellK l c' = cellK (K i) c') : (flatK n K).set (i * 27 + c) u = flatK n (updK K i l) := by
  apply List.ext_getElem?
  intro j
  by_cases hj : j < n * 27
  · rw [flatK_get _ _ _ hj]
    by_cases e : i * 27 + c = j
    · rw [List.getElem?_set, if_pos e, if_pos (by rw [flatK_length]; omega)]
      have e1 : j / 27 = i := by omega
      have e2 : j % 27 = c := by omega
      rw [e1, e2]
      unfold updK
      rw [if_pos rfl, h1]
    · rw [List.getElem?_set_ne e, flatK_get _ _ _ hj]
      unfold updK
      by_cases e1 : j / 27 = i
      · rw [if_pos e1, h2 _ (by omega), e1]
      · rw [if_neg e1]
  · rw [List.getElem?_eq_none (by rw [List.length_set, flatK_length]; omega), List.getElem?_eq_none (by rw [flatK_length]; omega)]
/-- The row of the call's own reads as these links. -/
theorem own_rdK {w : World} {base g n cap : Nat} {K : Nat → LinkV} (h : w.ownsRow base 53 27 (.slice (some ⟨g, 0, none⟩) n cap) n (flatK n K)) (h1 : ∀ i, i < n → oneK (K i)) : RdK w (some ⟨g, 0, none⟩) n ((List.range n).map K) := by
  refine ⟨by simp, fun i hi => ⟨g, 0, rfl, ?_⟩⟩
  have e : ((List.range n).map K).getD i default = K i := by
    rw [List.getD_eq_getElem?_getD, List.getElem?_map, List.getElem?_range hi]
    rfl
  rw [e]
  refine ⟨fun j v hv => ?_, h1 i hi⟩
  have hj : j < 27 := (List.getElem?_eq_some_iff.1 hv).1
  rw [Nat.zero_add, h.cellAt _ (by omega), flatK_get _ _ _ (by omega)]
  have e1 : (i * 27 + j) / 27 = i := by omega
  have e2 : (i * 27 + j) % 27 = j := by omega
  rw [e1, e2]
  unfold cellK
  rw [List.getD_eq_getElem?_getD, hv]
  rfl
theorem own_rate {w : World} {base g n cap : Nat} {K : Nat → LinkV} (h : w.ownsRow base 53 27 (.slice (some ⟨g, 0, none⟩) n cap) n (flatK n K)) (i : Nat) (hi : i < n) : w.cell? ⟨g, i * 27, none⟩ = some (.int .i64 (K i).r) := by
  rw [h.cellAt _ (by omega), flatK_get _ _ _ (by omega), Nat.mul_div_cancel _ (by omega), Nat.mul_mod_left]
  rfl
theorem own_delay {w : World} {base g n cap : Nat} {K : Nat → LinkV} (h : w.ownsRow base 53 27 (.slice (some ⟨g, 0, none⟩) n cap) n (flatK n K)) (i : Nat) (hi : i < n) : w.cell? ⟨g, i * 27 + 1, none⟩ = some (.int .i64 (K i).d) := by
  have e1 : (i * 27 + 1) / 27 = i := by omega
  have e2 : (i * 27 + 1) % 27 = 1 := by omega
  rw [h.cellAt _ (by omega), flatK_get _ _ _ (by omega), e1, e2]
  rfl
theorem info_link : (Try.prog.info? 53).map (fun i => (i.zero, i.size, i.bytes)) = some (some (linkVal 0 0 zeroX), 27, 224) := by kernel_rfl
/-- The slice is copied behind an empty one. -/
theorem copy_links {ops : Array Oper} {rest : List Oper} {o : Oper} {a : Act} {w : World} {Q : Exit → Act → World → Prop} {la : Option Addr} {ln lc : Nat} {ks : List LinkV} (hgd : o.guard = none) (s x : Operand) (ho : o.op = .call { callee := .builtin .append, args := #[s, x], argTypes := #[22, 22] })
    (hs : a.eval s = .slice (some ⟨w.heap.size, 0, none⟩) 0 0) (hx : a.eval x = .slice la ln lc) (hk : RdK w la ln ks) (h0 : 1 ≤ ln) (h20 : ln ≤ 20)
    (h : ∀ g cap V, V.ownsRow w.heap.size 53 27 (.slice (some ⟨g, 0, none⟩) ln cap) ln (flatK ln fun i => ks.getD i default) → Below w.heap.size w V → w.heap.size ≤ g → wpList Try.prog ops Q rest (a.put o.dst (.slice (some ⟨g, 0, none⟩) ln cap)) V) :
    wpList Try.prog ops Q (o :: rest) a (w.alloc (.cells #[] 53)) := by
  obtain ⟨i0, hi, hz0, hz1, hz2⟩ := info_parts info_link
  obtain ⟨b, of, rfl, hr0, _⟩ := hk.2 0 (by omega)
  have hown : (w.alloc (.cells #[] 53)).ownsRow w.heap.size 53 27 (.slice (some ⟨w.heap.size, 0, none⟩) 0 0) 0 [] := World.ownsRow_made w #[] 0 (Nat.le_refl _) (by unfold maxLen; omega) rfl
  refine wpList_append_own _ hgd s x 22 ho w.heap.size 53 i0 (linkVal 0 0 zeroX) 27 224 Try.underlying22 hi hz0 hz1 hz2 rfl (by decide) _ 0 [] hs hown ⟨b, of, none⟩ ln lc (flatK ln fun i => ks.getD i default) hx (flatK_length _ _) ?c1 ?c2 ?c3 ?c4 ?c5 ?_
  case c1 =>
    intro j u hj
    have hjl : j < ln * 27 := by
      rcases Nat.lt_or_ge j (ln * 27) with h | h
      · exact h
      · rw [List.getElem?_eq_none (by rw [flatK_length]; exact h)] at hj; cases hj
    rw [flatK_get _ _ _ hjl] at hj
    obtain ⟨b', of', e, hr, _⟩ := hk.2 (j / 27) (by omega)
    injection e with e
    injection e with e1 e2
    subst e1
    subst e2
    rw [Addr.add_mid]
    refine below_cell_of (below_new (Below.refl _ _) _) ?_
    have hm : j % 27 < 27 := Nat.mod_lt _ (by omega)
    have := hr (j % 27) u ((cellK_get _ _ hm).trans hj)
    rwa [show of + j / 27 * 27 + j % 27 = of + j by omega] at this
  case c2 =>
    intro u hu
    obtain ⟨j, hj⟩ := List.getElem?_of_mem hu
    have hjl : j < ln * 27 := by
      rcases Nat.lt_or_ge j (ln * 27) with h | h
      · exact h
      · rw [List.getElem?_eq_none (by rw [flatK_length]; exact h)] at hj; cases hj
    rw [flatK_get _ _ _ hjl] at hj
    obtain ⟨_, _, _, _, h1⟩ := hk.2 (j / 27) (by omega)
    have hm : j % 27 < 27 := Nat.mod_lt _ (by omega)
    injection hj with hj
    rw [← hj]
    have h2 := Array.all_eq_true_iff_forall_mem.1 h1
    exact h2 _ (List.mem_toArray.2 (List.mem_of_getElem? (cellK_get _ _ hm)))
  case c3 => unfold maxLen; omega
  case c4 => omega
  case c5 => simp
  intro v' V hown' hgrow _
  rw [Nat.zero_add, List.nil_append] at hown'
  rcases hown'.2 with ⟨_, h1⟩ | ⟨g, cap, cur, rfl, hb, _⟩
  · omega
  · refine h g cap V hown' ?_ hb
    exact ((below_new (Below.refl _ w) (.cells #[] 53)).grown hgrow (by simp) (fun j hj => by simp [Value.ownBlock] at hj; omega))
end Go.Proofs.Ytjjplcjinhcpiaa
