/- What the wellformedness of an argument's number says of its size. -/
import Derived.Test.YtjnjokkhkfdaiaaMem
import Derived.ProofKit
namespace Go.Proofs.Ytjnjokkhkfdaiaa
open Go.RowKit
theorem wf_hi {n : Int} (h : (Lit.int .i64 n).wf = true) : n ≤ 9223372036854775807 := by
  simp [Lit.wf, IntKind.min, IntKind.max, IntKind.signed, IntKind.bits] at h
  omega
end Go.Proofs.Ytjnjokkhkfdaiaa
