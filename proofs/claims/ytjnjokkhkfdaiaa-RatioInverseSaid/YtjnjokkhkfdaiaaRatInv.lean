/- The statement RatioInverse: it returns true, whatever the input, and leaves what was in memory alone. -/
import Derived.Test.YtjnjokkhkfdaiaaRatInvY
import Derived.Test.YtjnjokkhkfdaiaaRatInvN
namespace Go.Proofs.Ytjnjokkhkfdaiaa
open Go.RowKit

theorem inv_entry (an ad bn bd : Int) (w : World) (ka : an ≤ 9223372036854775807) (kb : bn ≤ 9223372036854775807) : Calls Try.prog 6 #[.agg #[.int .i64 an, .int .i64 ad], .agg #[.int .i64 bn, .int .i64 bd]] w fun e w' => e = .returned (.bool true) ∧ Below w.heap.size w w' := by
  obtain ⟨sn, sd, se, hS⟩ : ∃ sn sd se, Rt.add an ad bn bd = (sn, sd, se) := ⟨_, _, _, rfl⟩
  obtain ⟨pn, pd, pe, hP⟩ : ∃ pn pd pe, Rt.mul an ad bn bd = (pn, pd, pe) := ⟨_, _, _, rfl⟩
  by_cases hs : se = 0
  · subst hs
    have h1 := Rt.add_sub (an := an) (ad := ad) (bn := bn) (bd := bd) (by rw [hS])
    have h2 := (Rt.add_ok (an := an) (ad := ad) (bn := bn) (bd := bd) (by rw [hS])).2.2.1
    rw [hS] at h1 h2
    have h3 := Rt.valid_bd h2
    simp only at h1 h3
    by_cases hp : pe = 0
    · subst hp
      have k1 := Rt.mul_div (an := an) (ad := ad) (bn := bn) (bd := bd) (by rw [hP])
      have k2 := (Rt.mul_ok (an := an) (ad := ad) (bn := bn) (bd := bd) (by rw [hP])).2.2.1
      rw [hP] at k1 k2
      have k3 := Rt.valid_bd k2
      simp only at k1 k3
      rcases k1.1 with ⟨z1, d1⟩ | ⟨z1, d1⟩
      · rcases k1.2 with ⟨z2, d2⟩ | ⟨z2, d2⟩
        · exact inv_yy_zz an ad bn bd sn sd pn pd w ka kb hS hP (by omega) h1.1 h1.2 (by omega) (by simpa using z1) d1 (by simpa using z2) d2
        · exact inv_yy_zn an ad bn bd sn sd pn pd w ka kb hS hP (by omega) h1.1 h1.2 (by omega) (by simpa using z1) d1 (by simpa using z2) d2
      · rcases k1.2 with ⟨z2, d2⟩ | ⟨z2, d2⟩
        · exact inv_yy_nz an ad bn bd sn sd pn pd w ka kb hS hP (by omega) h1.1 h1.2 (by omega) (by simpa using z1) d1 (by simpa using z2) d2
        · exact inv_yy_nn an ad bn bd sn sd pn pd w ka kb hS hP (by omega) h1.1 h1.2 (by omega) (by simpa using z1) d1 (by simpa using z2) d2
    · exact inv_yn an ad bn bd sn sd pn pd pe w ka kb hS hP (by omega) h1.1 h1.2 (by simpa using hp)
  · by_cases hp : pe = 0
    · subst hp
      have k1 := Rt.mul_div (an := an) (ad := ad) (bn := bn) (bd := bd) (by rw [hP])
      have k2 := (Rt.mul_ok (an := an) (ad := ad) (bn := bn) (bd := bd) (by rw [hP])).2.2.1
      rw [hP] at k1 k2
      have k3 := Rt.valid_bd k2
      simp only at k1 k3
      rcases k1.1 with ⟨z1, d1⟩ | ⟨z1, d1⟩
      · rcases k1.2 with ⟨z2, d2⟩ | ⟨z2, d2⟩
        · exact inv_ny_zz an ad bn bd sn sd se pn pd w ka kb hS hP (by simpa using hs) (by omega) (by simpa using z1) d1 (by simpa using z2) d2
        · exact inv_ny_zn an ad bn bd sn sd se pn pd w ka kb hS hP (by simpa using hs) (by omega) (by simpa using z1) d1 (by simpa using z2) d2
      · rcases k1.2 with ⟨z2, d2⟩ | ⟨z2, d2⟩
        · exact inv_ny_nz an ad bn bd sn sd se pn pd w ka kb hS hP (by simpa using hs) (by omega) (by simpa using z1) d1 (by simpa using z2) d2
        · exact inv_ny_nn an ad bn bd sn sd se pn pd w ka kb hS hP (by simpa using hs) (by omega) (by simpa using z1) d1 (by simpa using z2) d2
    · exact inv_nn an ad bn bd sn sd se pn pd pe w ka kb hS hP (by simpa using hs) (by simpa using hp)
end Go.Proofs.Ytjnjokkhkfdaiaa
