/- Invariants: the reader of the next pair. -/
import Derived.Test.YtglelcgllodhoaaWi1
import Derived.Test.YtglelcgllodhoaaSe1
namespace Go.Proofs.Ytglelcgllodhoaa.Cu
open Go Go.SX Go.Proofs.Ytglelcgllodhoaa.VT
set_option maxRecDepth 100000
set_option linter.unusedVariables false
set_option linter.unusedSimpArgs false

def prO (q : Pr) : Ob := .cells 25 [.v (.int .i64 q.v), .v (.int .i64 q.l)]
def blO (b : Bool) : Ob := .cells 4 [.v (.bool b)]
theorem mkPr_t (q : Pr) (dv dl : Int) : mkPr (true, q) dv dl = ⟨q.v + dv, dl⟩ := by unfold mkPr; rw [if_pos (.inl rfl)]
theorem mkPr_1 (q : Pr) (dv dl : Int) (h : dv ≠ 0) : mkPr (false, q) dv dl = ⟨q.v + dv, dl⟩ := by unfold mkPr; rw [if_pos (.inr h)]
theorem mkPr_2 (q : Pr) (dv dl : Int) (h : dv = 0) : mkPr (false, q) dv dl = ⟨q.v + dv, q.l + (dl + 1)⟩ := by
  unfold mkPr
  rw [if_neg (by rintro (h1 | h1)
                 · exact absurd (show false = true from h1) (by decide)
                 · exact h1 h)]
  congr 1
  dsimp only
  omega
/-- The state after a pair. -/
def stP (vregs : Int) (s : PS) (p : Ps) (x : Pr) : PS := if (sDl (sDv vregs s p).2).2.2 ≠ 0 then s else (false, x)
end Go.Proofs.Ytglelcgllodhoaa.Cu
