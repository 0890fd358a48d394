/- What lies in the world: bytes, slices of bytes. -/
import Derived.Test.YtgdfhpknhcjipaaSe1
namespace Go.Proofs.Ytgdfhpknhcjipaa.Cu
open Go Go.SX Go.Proofs.Ytgdfhpknhcjipaa.VT
theorem wf_u8 (x : Int) (h : (Lit.int .u8 x).wf = true) : 0 ≤ x ∧ x ≤ 255 := by
  simp [Lit.wf, IntKind.min, IntKind.max, IntKind.signed, IntKind.bits] at h
  omega
theorem opens_u8 : Opens Try.prog 5 kB := opens_int (by kernel_rfl) Try.underlying5 wf_u8
theorem opens_bs : Opens Try.prog 22 kBs := opens_slice (by kernel_rfl) Try.underlying22 opens_u8
theorem opens_bss : Opens Try.prog 23 (kS kBs) := opens_slice (by kernel_rfl) Try.underlying23 opens_bs
end Go.Proofs.Ytgdfhpknhcjipaa.Cu
