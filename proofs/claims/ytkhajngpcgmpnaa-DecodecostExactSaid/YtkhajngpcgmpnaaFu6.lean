/- Functions of machines: the readers that the program passes on. -/
import Derived.Test.YtkhajngpcgmpnaaFu4
namespace Go.Proofs.Ytkhajngpcgmpnaa.Cu
open Go Go.SX Go.Proofs.Ytkhajngpcgmpnaa.VT
set_option maxRecDepth 100000
set_option linter.unusedVariables false
set_option linter.unusedSimpArgs false

theorem sFlds_in64 {op regs : Int} {p : Ps} (hb1 : isB p.1) (h : regs ≤ 9223372036854775807) : in64 (sFlds op regs p).1.1 ∧ in64 (sFlds op regs p).1.2.1 ∧ in64 (sFlds op regs p).1.2.2.1 ∧ in64 (sFlds op regs p).1.2.2.2 := by
  unfold sFlds
  dsimp only
  exact ⟨optN_in64 hb1 h, optN_in64 (isB_sub hb1 (optN_suf _ _ _ _)) h, optN_in64 (isB_sub (isB_sub hb1 (optN_suf _ _ _ _)) (optN_suf _ _ _ _)) h, optI_in64 (isB_sub (isB_sub (isB_sub hb1 (optN_suf _ _ _ _)) (optN_suf _ _ _ _)) (optN_suf _ _ _ _))⟩
theorem sMac_ok64 {regs slots : Int} {p : Ps} (hb : isB p.1) (h : regs ≤ 9223372036854775807) : (sMac regs slots p).1.ok := by
  have h0 := sByte_range hb
  have hb1 : isB (sFirst machOp 8 p).2.1 := isB_sub hb (sFirst_suf _ _ _)
  have hop : in64 (sFirst machOp 8 p).1 := by unfold in64 sFirst; dsimp only; omega
  have hz : mac0.ok := ⟨in64_z, in64_z, in64_z, in64_z, in64_z, in64_z, in64_z⟩
  unfold sMac
  dsimp only
  split
  · dsimp only
    split
    · exact ⟨hop, in64_z, in64_z, in64_z, in64_z, wrap64 _, wrap64 _⟩
    · exact hz
  · dsimp only
    split
    · obtain ⟨a, b, c, d⟩ := sFlds_in64 (op := (sFirst machOp 8 p).1) hb1 h
      exact ⟨hop, a, b, c, d, in64_z, in64_z⟩
    · exact hz
theorem sMacR_suf (regs slots run : Int) (p : Ps) : (sMacR regs slots run p).2.1 <:+ p.1 := by
  unfold sMacR
  dsimp only
  split
  · exact sMac_suf _ _ _
  · exact sMac_suf _ _ _
theorem sMCode_suf (regs slots k : Int) (p : Ps) : (sMCode regs slots k p).2.1 <:+ p.1 := rep_suf (fun run p => sMacR_suf _ _ run p) _ _ _
theorem sMBlkF_suf (regs slots n t : Int) (p : Ps) : (sMBlkF regs slots n t p).2.1 <:+ p.1 := (sTrm_suf _ _ _).trans ((sMCode_suf _ _ _ _).trans (cntC_suf _ _ _ _ _))
theorem nxR_le (run : Int) (i : Mac) (h : 0 ≤ run) : 0 ≤ nxR run i ∧ nxR run i ≤ run + 1 := by unfold nxR; split <;> omega
def mfO (a r s : Int) : Ob := .cells 36 [.v (.int .i64 a), .v (.int .i64 r), .v (.int .i64 s), .s 4]
def runO (run : Int) : Ob := .cells 3 [.v (.int .i64 run)]
def mbkO (m : Nat) (vals : List Value) : Ob := .row 50 5 m vals
/-- What the blocks of a reader come to. -/
def MBksPost (A : Option Addr) (bs : List Int) (c : Nat) (a regs slots : Int) (r : (Int × List MBlk) × Ps) (sv : SV) (H' : List Ob) (G' : Gh) : Prop :=
  sv = .tup [] ∧ ∃ vals, H' = [curL A bs c r.2, ccO, mfO a regs slots, runO 0, mbkO r.1.2.length vals] ∧ kMBlk.Cs G' r.1.2 vals
end Go.Proofs.Ytkhajngpcgmpnaa.Cu
