/- An initial pair holds for the initial values of both functions for all arguments; any other pair does not hold for arguments that are different and not 0. No condition. -/
import Derived.RowKit
namespace Go.Proofs.Ytndbpljldmnkcaa.LT
open Go.RowKit
theorem w64 (n : Int) (h0 : -9223372036854775808 ≤ n) (h1 : n ≤ 9223372036854775807) : wrap64 n = n := by unfold wrap64; omega
theorem i64_of {x : Int} (h : (Lit.int .i64 x).wf = true) : -9223372036854775808 ≤ x ∧ x ≤ 9223372036854775807 := by
  simp [Lit.wf, IntKind.min, IntKind.max, IntKind.signed, IntKind.bits] at h
  omega
end Go.Proofs.Ytndbpljldmnkcaa.LT
