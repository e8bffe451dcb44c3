/- Arguments of package route opened: links and slices of links. -/
import Derived.Test.YtjjplcjinhcpiaaRoOpen
import Derived.Test.YtjjplcjinhcpiaaRoTrip
import Derived.OpenShut
namespace Go.Proofs.Ytjjplcjinhcpiaa
open Go.RowKit Go.ChangeShapes

section
variable {H : Type} {enc : TypeId × Value → H} {P : Program} {w : World} {base : Nat} {spare : Nat → Bool} {held : Bool}
/-- Whatever reads as this type consists of single cells. -/
def Ones (enc : TypeId × Value → H) (P : Program) (w : World) (base : Nat) (spare : Nat → Bool) (held : Bool) (t : TypeId) : Prop := ∀ (n : Nat) (cs : List Value) (x : DataW H × List MemPlace), DataW.trod enc P w base spare held n t cs = some x → ∀ v, v ∈ cs → v.oneCell' = true
theorem ones_int {t : TypeId} {k : IntKind} (ht : P.underlying t = some (.int k)) : Ones enc P w base spare held t := fun n cs x h v hv => by
  obtain ⟨z, rfl, _⟩ := DataW.trod_int ht h
  rw [List.mem_singleton.1 hv]
  rfl
theorem ones_bool {t : TypeId} (ht : P.underlying t = some .bool) : Ones enc P w base spare held t := fun n cs x h v hv => by
  obtain ⟨z, rfl, _⟩ := DataW.trod_bool ht h
  rw [List.mem_singleton.1 hv]
  rfl
theorem ones_slice {t e : TypeId} (ht : P.underlying t = some (.slice e)) : Ones enc P w base spare held t := fun n cs x h v hv => by
  rcases Go.Deep.open_slice ht h with ⟨rfl, _⟩ | ⟨y, l, c, m, n, D, Pl, rfl, _⟩
  · rw [List.mem_singleton.1 hv]; rfl
  · rw [List.mem_singleton.1 hv]; rfl
theorem mem_window {cs : List Value} {o s j : Nat} {v : Value} (hv : cs[j]? = some v) (h1 : o ≤ j) (h2 : j < o + s) : v ∈ (cs.drop o).take s := by
  refine List.mem_of_getElem? (i := j - o) ?_
  rw [List.getElem?_take_of_lt (by omega), List.getElem?_drop, show o + (j - o) = j by omega]
  exact hv
theorem ones_struct {t : TypeId} {fs : Array Field} (oks : List TypeId) (ht : P.underlying t = some (.struct fs)) (hok : ∀ t', t' ∈ oks → Ones enc P w base spare held t')
    (hc : ((List.range (P.cellsOf t)).all fun j => (List.range fs.size).any fun i => match fs[i]? with | some f => decide (f.offset ≤ j) && decide (j < f.offset + P.cellsOf f.type) && oks.contains f.type | none => false) = true) : Ones enc P w base spare held t := fun n cs x h v hv => by
  obtain ⟨xs, m, _, _, hl, hx, hf⟩ := DataW.trod_struct ht h
  obtain ⟨j, hj⟩ := List.getElem?_of_mem hv
  have hjl : j < P.cellsOf t := by rw [← hl]; exact (List.getElem?_eq_some_iff.1 hj).1
  have h1 := List.all_eq_true.1 hc j (List.mem_range.2 hjl)
  obtain ⟨i, hi, h2⟩ := List.any_eq_true.1 h1
  rw [List.mem_range] at hi
  rw [Array.getElem?_eq_getElem hi] at h2
  simp only [Bool.and_eq_true, decide_eq_true_eq, List.contains_iff_mem] at h2
  have h3 := hf i fs[i] (Array.getElem?_eq_getElem hi)
  rw [List.getElem?_eq_getElem (by omega)] at h3
  exact hok _ h2.2 _ _ _ h3 v (mem_window hj h2.1.1 h2.1.2)
theorem ones_array {t e : TypeId} {k : Nat} (ht : P.underlying t = some (.array k e)) (he : Ones enc P w base spare held e) (hc : P.cellsOf e = 1) (hk : P.cellsOf t = k) : Ones enc P w base spare held t := fun n cs x h v hv => by
  obtain ⟨xs, m, _, _, hl, hx, hf⟩ := DataW.trod_array ht h
  obtain ⟨j, hj⟩ := List.getElem?_of_mem hv
  have hjl : j < k := by rw [← hk, ← hl]; exact (List.getElem?_eq_some_iff.1 hj).1
  have h3 := hf j hjl
  rw [List.getElem?_eq_getElem (by omega), hc, Nat.mul_one] at h3
  exact he _ _ _ h3 v (mem_window hj (Nat.le_refl _) (by omega))
end
section
variable {H : Type} {enc : TypeId × Value → H} {w : World} {base : Nat} {spare : Nat → Bool} {held : Bool}
theorem ones_link : Ones enc Try.prog w base spare held 53 := by
  have i3 : Ones enc Try.prog w base spare held 3 := ones_int Try.underlying3
  have b4 : Ones enc Try.prog w base spare held 4 := ones_bool Try.underlying4
  have u47 : Ones enc Try.prog w base spare held 47 := ones_int Try.underlying47
  have s45 : Ones enc Try.prog w base spare held 45 := ones_slice Try.underlying45
  have a46 : Ones enc Try.prog w base spare held 46 := ones_array Try.underlying46 i3 (by kernel_rfl) (by kernel_rfl)
  have p44 : Ones enc Try.prog w base spare held 44 := ones_struct [3] Try.underlying44 (by simpa using i3) (by kernel_rfl)
  have p51 : Ones enc Try.prog w base spare held 51 := ones_struct [3, 4] Try.underlying51 (by simpa using ⟨i3, b4⟩) (by kernel_rfl)
  have q49 : Ones enc Try.prog w base spare held 49 := ones_struct [44, 3, 45, 46, 47] Try.underlying49 (by simpa using ⟨p44, i3, s45, a46, u47⟩) (by kernel_rfl)
  exact ones_struct [3, 49, 4, 51] Try.underlying53 (by simpa using ⟨i3, q49, b4, p51⟩) (by kernel_rfl)
/-- A link's cells. -/
theorem link_open {n : Nat} {cs : List Value} {x : DataW H × List MemPlace} (h : DataW.trod enc Try.prog w base spare held n 53 cs = some x) : ∃ r d X, cs = linkList r d X ∧ (linkList r d X).toArray.all (·.oneCell') = true := by
  obtain ⟨xs, m, _, _, hl, hx, hf⟩ := DataW.trod_struct Try.underlying53 h
  have hC : Try.prog.cellsOf 53 = 27 := by kernel_rfl
  have hC3 : Try.prog.cellsOf 3 = 1 := by kernel_rfl
  rw [hC] at hl
  have f0 := hf 0 _ rfl
  have f1 := hf 1 _ rfl
  have hx6 : xs.length = 6 := hx
  rw [List.getElem?_eq_getElem (by omega)] at f0 f1
  change DataW.trod enc Try.prog w base spare held m 3 ((cs.drop 0).take (Try.prog.cellsOf 3)) = _ at f0
  change DataW.trod enc Try.prog w base spare held m 3 ((cs.drop 1).take (Try.prog.cellsOf 3)) = _ at f1
  rw [hC3] at f0 f1
  obtain ⟨r, hr, _⟩ := DataW.trod_int Try.underlying3 f0
  obtain ⟨d, hd, _⟩ := DataW.trod_int Try.underlying3 f1
  have key : cs = linkList r d (fun i => cs.getD i undef) := by
    apply List.ext_getElem?
    intro i
    have g0 : cs[0]? = some (.int .i64 r) := by
      have := congrArg (·[0]?) hr
      simpa using this
    have g1 : cs[1]? = some (.int .i64 d) := by
      have := congrArg (·[0]?) hd
      simpa using this
    by_cases hi : i < 27
    · have gi : cs[i]? = some (cs.getD i undef) := by
        rw [List.getD_eq_getElem?_getD, List.getElem?_eq_getElem (by omega)]
        rfl
      match i, hi with
      | 0, _ => exact g0
      | 1, _ => exact g1
      | 2, _ => exact gi
      | 3, _ => exact gi
      | 4, _ => exact gi
      | 5, _ => exact gi
      | 6, _ => exact gi
      | 7, _ => exact gi
      | 8, _ => exact gi
      | 9, _ => exact gi
      | 10, _ => exact gi
      | 11, _ => exact gi
      | 12, _ => exact gi
      | 13, _ => exact gi
      | 14, _ => exact gi
      | 15, _ => exact gi
      | 16, _ => exact gi
      | 17, _ => exact gi
      | 18, _ => exact gi
      | 19, _ => exact gi
      | 20, _ => exact gi
      | 21, _ => exact gi
      | 22, _ => exact gi
      | 23, _ => exact gi
      | 24, _ => exact gi
      | 25, _ => exact gi
      | 26, _ => exact gi
      | _ + 27, h => exact absurd h (by omega)
    · rw [List.getElem?_eq_none (by omega), List.getElem?_eq_none (by show 27 ≤ i; omega)]
  refine ⟨r, d, _, key, ?_⟩
  rw [← key]
  exact all_oneCell_toArray (fun v hv => ones_link n cs x h v hv)
/-- A link by value. -/
theorem link_val {r : Reach} {b0 : Nat} {v : Value} {dt : DataW H} {p : List MemPlace} (hv : Value.okWide Try.prog w r b0 53 v) (h : DataW.Trod enc Try.prog w base spare held 53 v dt p) : ∃ r d X, v = linkVal r d X ∧ (linkList r d X).toArray.all (·.oneCell') = true := by
  obtain ⟨cs, rfl, _⟩ := Go.WideShapes.okWide_struct Try.underlying53 hv
  obtain ⟨fuel, hf⟩ := h
  obtain ⟨r, d, X, e, hone⟩ := link_open (cs := cs.toList) hf
  refine ⟨r, d, X, ?_, hone⟩
  have : cs = (linkList r d X).toArray := by rw [← e]
  rw [this]
/-- A slice of links. -/
theorem links_open {a : Option Addr} {len cap : Nat} {x : DataW H × List MemPlace} (h : ∃ fuel, DataW.trod enc Try.prog w base spare held fuel 22 (Value.slice a len cap).cells.toList = some x) : ∃ ks, RdK w a len ks ∧ (len : Int) ≤ 9223372036854775807 := by
  obtain ⟨fuel, hf⟩ := h
  rcases Go.Deep.open_slice Try.underlying22 hf with ⟨hcs, _⟩ | ⟨y, l, c, m, n, D, Pl, hcs, _, hl, hm, hmm, _, hx⟩
  · simp [Value.cells] at hcs
    obtain ⟨rfl, rfl, rfl⟩ := hcs
    exact ⟨[], ⟨rfl, fun i hi => absurd hi (Nat.not_lt_zero i)⟩, by omega⟩
  · simp [Value.cells] at hcs
    obtain ⟨rfl, rfl, rfl⟩ := hcs
    have hge : len ≤ m := by rw [hmm]; split <;> omega
    have hC : Try.prog.cellsOf 53 = 27 := by kernel_rfl
    rw [hC] at hx
    have each : ∀ i, i < len → ∃ p : LinkV, (∀ j v, (linkList p.r p.d p.X)[j]? = some v → w.cell? ((y.add (i * 27)).add j) = some v) ∧ (linkList p.r p.d p.X).toArray.all (·.oneCell') = true := by
      intro i hi
      obtain ⟨cs, h1, h2⟩ := hx i (by omega)
      obtain ⟨_, hlen, hcell⟩ := World.cells?_some h1
      obtain ⟨r, d, X, e, hone⟩ := link_open h2
      refine ⟨⟨r, d, X⟩, fun j v hv => ?_, hone⟩
      have hj : j < 27 := (List.getElem?_eq_some_iff.1 hv).1
      rw [hcell j hj, e]
      exact hv
    obtain ⟨f, hf⟩ := Go.Deep.choose_lt each
    refine ⟨(List.range len).map f, ⟨by simp, fun i hi => ?_⟩, maxLen_int (Nat.le_trans hl hm)⟩
    have e : ((List.range len).map f).getD i default = f i := by
      rw [List.getD_eq_getElem?_getD, List.getElem?_map, List.getElem?_range hi]
      rfl
    have hy : y = ⟨y.block, y.off, none⟩ := by
      have h0 := (hf 0 (by omega)).1 0 _ rfl
      rw [show (y.add (0 * 27)).add 0 = y from rfl] at h0
      obtain ⟨yb, yo, ys⟩ := y
      have := World.cell?_spot h0
      simp only at this
      subst this
      rfl
    refine ⟨y.block, y.off, by rw [← hy], fun j v hv => ?_, by rw [e]; exact (hf i hi).2⟩
    rw [e] at hv
    have h1 := (hf i hi).1 j v hv
    rw [hy, Addr.add_mid, Addr.add_mid] at h1
    exact h1
end
end Go.Proofs.Ytjjplcjinhcpiaa
