/- What lies in the world: integers. -/
import Derived.Test.YtgdfhpknhcjipaaCuP
namespace Go.Proofs.Ytgdfhpknhcjipaa.Cu
open Go Go.SX
set_option maxRecDepth 100000
theorem consE {P : Program} {α β : Type} {f : Field} {fs : List Field} {o n' : Nat} {d : Kd α} {R : Gh → β → List Value → Prop} (o' n : Nat) (hd : Opens P f.type d) (ho : f.offset = o) (hoo : o' = o + d.sz) (hnn : n' = d.sz + n) (hr : OpensF P fs o' n R) :
    OpensF P (f :: fs) o n' (β := α × β) (fun G x cs => ∃ c1 c2, cs = c1 ++ c2 ∧ d.R G x.1 c1 ∧ R G x.2 c2) := by
  subst hoo hnn; exact .cons ho hd hr
theorem wf_i64 (x : Int) (h : (Lit.int .i64 x).wf = true) : -9223372036854775808 ≤ x ∧ x ≤ 9223372036854775807 := by
  simp [Lit.wf, IntKind.min, IntKind.max, IntKind.signed, IntKind.bits] at h
  omega
theorem opens_i {t : TypeId} (hc : Try.prog.cellsOf t = 1) (ht : Try.prog.underlying t = some (.int .i64)) : Opens Try.prog t (kI .i64 (-9223372036854775808) 9223372036854775807) := opens_int hc ht wf_i64
theorem opens_int_ : Opens Try.prog 3 (kI .i64 (-9223372036854775808) 9223372036854775807) := opens_i (by kernel_rfl) Try.underlying3
theorem opens_loc : Opens Try.prog 77 (kI .i64 (-9223372036854775808) 9223372036854775807) := opens_i (by kernel_rfl) Try.underlying77
end Go.Proofs.Ytgdfhpknhcjipaa.Cu
