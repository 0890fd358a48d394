/- Functions of machines: what is read. -/
import Derived.Test.YtkhajngpcgmpnaaFu6
namespace Go.Proofs.Ytkhajngpcgmpnaa.Cu
open Go Go.SX Go.Proofs.Ytkhajngpcgmpnaa.VT
set_option maxRecDepth 100000
set_option linter.unusedVariables false
set_option linter.unusedSimpArgs false

theorem sMBlks_suf (regs slots n : Int) (p : Ps) : (sMBlks regs slots n p).2.1 <:+ p.1 := rep_suf (fun t p => sMBlkF_suf regs slots n t p) _ _ _
theorem sMHead_suf (p : Ps) : (sMHead p).2.1 <:+ p.1 := by
  unfold sMHead
  dsimp only
  split
  · exact (sUint_suf _ _).trans ((sUint_suf _ _).trans (sUint_suf _ _))
  · exact (sUint_suf _ _).trans ((sUint_suf _ _).trans (sUint_suf _ _))
theorem sMBody_suf (regs slots : Int) (p : Ps) : (sMBody regs slots p).2.1 <:+ p.1 := (sMBlks_suf _ _ _ _).trans (cntC_suf _ _ _ _ _)
/-- What a reader of functions comes to. -/
def MFnPost (A : Option Addr) (bs : List Int) (c : Nat) (r : MFn × Ps) (sv : SV) (H' : List Ob) (G' : Gh) : Prop := ∃ B d, sv = mfnS B d r.1 ∧ kMBlk.S G' B d r.1.blocks ∧ H' = [curL A bs c r.2]
end Go.Proofs.Ytkhajngpcgmpnaa.Cu
