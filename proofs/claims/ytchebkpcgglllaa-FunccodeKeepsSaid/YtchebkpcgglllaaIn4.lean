/- Instructions of machines and terminators: what is read. -/
import Derived.Test.YtchebkpcgglllaaInx
namespace Go.Proofs.Ytchebkpcgglllaa.Cu
open Go Go.SX Go.Proofs.Ytchebkpcgglllaa.VT
set_option maxRecDepth 100000
set_option linter.unusedVariables false
set_option linter.unusedSimpArgs false

/-- The two locations of a move. -/
def sMove (regs slots : Int) (p : Ps) : (Int × Int) × Ps :=
  let d := sPlace regs slots p
  let s := sPlace regs slots d.2
  ((d.1, s.1), if isSlot d.1 ∧ isSlot s.1 then sFail 10 s.2 else s.2)
theorem sMove_suf (regs slots : Int) (p : Ps) : (sMove regs slots p).2.1 <:+ p.1 := by
  unfold sMove; simp only; split
  · exact (sPlace_suf _ _ _).trans (sPlace_suf _ _ _)
  · exact (sPlace_suf _ _ _).trans (sPlace_suf _ _ _)
def mac0 : Mac := ⟨0, 0, 0, 0, 0, 0, 0⟩
def sMac (regs slots : Int) (p : Ps) : Mac × Ps :=
  let b := sFirst machOp 8 p
  if b.1 = 18 then
    let m := sMove regs slots b.2
    (if m.2.2 = 0 then ⟨b.1, 0, 0, 0, 0, m.1.1, m.1.2⟩ else mac0, m.2)
  else
    let f := sFlds b.1 regs b.2
    (if f.2.2 = 0 then ⟨b.1, f.1.1, f.1.2.1, f.1.2.2.1, f.1.2.2.2, 0, 0⟩ else mac0, f.2)
theorem sMac_suf (regs slots : Int) (p : Ps) : (sMac regs slots p).2.1 <:+ p.1 := by
  unfold sMac; simp only; split
  · exact (sMove_suf _ _ _).trans (sFirst_suf _ _ _)
  · exact (sFlds_suf _ _ _).trans (sFirst_suf _ _ _)
end Go.Proofs.Ytchebkpcgglllaa.Cu
