/- Functions: what is read. -/
import Derived.Test.YtkhajngpcgmpnaaFu4
namespace Go.Proofs.Ytkhajngpcgmpnaa.Cu
open Go Go.SX Go.Proofs.Ytkhajngpcgmpnaa.VT
set_option maxRecDepth 100000
set_option linter.unusedVariables false
set_option linter.unusedSimpArgs false

theorem sBlks_suf (regs n : Int) (p : Ps) : (sBlks regs n p).2.1 <:+ p.1 := rep_suf (fun t p => sBlkF_suf regs n t p) _ _ _
theorem sHead_suf (p : Ps) : (sHead p).2.1 <:+ p.1 := by
  unfold sHead
  dsimp only
  split
  · exact (sUint_suf _ _).trans (sUint_suf _ _)
  · exact (sUint_suf _ _).trans (sUint_suf _ _)
theorem sBody_suf (regs : Int) (p : Ps) : (sBody regs p).2.1 <:+ p.1 := (sBlks_suf _ _ _).trans (cntC_suf _ _ _ _ _)
/-- What a reader of functions comes to. -/
def FnPost (A : Option Addr) (bs : List Int) (c : Nat) (r : Fn × Ps) (sv : SV) (H' : List Ob) (G' : Gh) : Prop := ∃ B d, sv = fnS B d r.1 ∧ kBlk.S G' B d r.1.blocks ∧ H' = [curL A bs c r.2]
end Go.Proofs.Ytkhajngpcgmpnaa.Cu
