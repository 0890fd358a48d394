/- Functions: the readers that the program passes on. -/
import Derived.Test.YtkhajngpcgmpnaaFu2
namespace Go.Proofs.Ytkhajngpcgmpnaa.Cu
open Go Go.SX Go.Proofs.Ytkhajngpcgmpnaa.VT
set_option maxRecDepth 100000
set_option linter.unusedVariables false
set_option linter.unusedSimpArgs false

theorem in64_z : in64 0 := by unfold in64; omega
theorem sNum_in64 {bound why : Int} {p : Ps} (hb : isB p.1) (h : bound ≤ 9223372036854775807) : in64 (sNum bound why p).1 := by
  have hr := sUint_range (most := maxU) hb
  unfold sNum in64
  split
  · dsimp only; omega
  · omega
theorem optN_in64 {u : Bool} {bound why : Int} {p : Ps} (hb : isB p.1) (h : bound ≤ 9223372036854775807) : in64 (optN u bound why p).1 := by
  cases u
  · exact in64_z
  · exact sNum_in64 hb h
theorem optI_in64 {u : Bool} {p : Ps} (hb : isB p.1) : in64 (optI u p).1 := by
  cases u
  · exact in64_z
  · have hr := sUint_range (most := 18446744073709551615) hb
    exact unzig_range _ hr.1 hr.2.1
theorem isB_sub {l m : List Int} (h : isB m) (hs : l <:+ m) : isB l := fun x hx => h x (hs.subset hx)
theorem sIns_ok64 {regs : Int} {p : Ps} (hb : isB p.1) (h : regs ≤ 9223372036854775807) : (sIns regs p).1.ok := by
  have h0 := sByte_range hb
  have hb1 : isB (sFirst srcOp 8 p).2.1 := isB_sub hb (sFirst_suf _ _ _)
  unfold sIns sFlds
  dsimp only
  split
  · refine ⟨by unfold in64 sFirst; dsimp only; omega, optN_in64 hb1 h, optN_in64 (isB_sub hb1 (optN_suf _ _ _ _)) h, optN_in64 (isB_sub (isB_sub hb1 (optN_suf _ _ _ _)) (optN_suf _ _ _ _)) h, optI_in64 (isB_sub (isB_sub (isB_sub hb1 (optN_suf _ _ _ _)) (optN_suf _ _ _ _)) (optN_suf _ _ _ _))⟩
  · exact ⟨in64_z, in64_z, in64_z, in64_z, in64_z⟩
theorem sTrm_ok64 {regs blocks : Int} {p : Ps} (hb : isB p.1) (h : regs ≤ 9223372036854775807) (h2 : blocks ≤ 9223372036854775807) : (sTrm regs blocks p).1.ok := by
  have h0 := sByte_range hb
  have hb1 : isB (sFirst trmKind 16 p).2.1 := isB_sub hb (sFirst_suf _ _ _)
  unfold sTrm sTf
  dsimp only
  split
  · refine ⟨by unfold in64 sFirst; dsimp only; omega, optN_in64 hb1 h, optN_in64 (isB_sub hb1 (optN_suf _ _ _ _)) h2, optN_in64 (isB_sub (isB_sub hb1 (optN_suf _ _ _ _)) (optN_suf _ _ _ _)) h2⟩
  · exact ⟨in64_z, in64_z, in64_z, in64_z⟩
/-- What the readers share: the cursor's cell, the function's cell, its blocks. -/
def ccO : Ob := .cells 64 [.p 0 0]
def fO (a r : Int) : Ob := .cells 33 [.v (.int .i64 a), .v (.int .i64 r), .s 3]
def bkO (m : Nat) (vals : List Value) : Ob := .row 47 5 m vals
theorem sCode_suf (regs k : Int) (p : Ps) : (sCode regs k p).2.1 <:+ p.1 := rep_suf (fun _ p => sIns_suf _ p) _ _ _
theorem sBlkF_suf (regs n t : Int) (p : Ps) : (sBlkF regs n t p).2.1 <:+ p.1 := (sTrm_suf _ _ _).trans ((sCode_suf _ _ _).trans (cntC_suf _ _ _ _ _))
/-- What the blocks of a reader come to. -/
def BksPost (A : Option Addr) (bs : List Int) (c : Nat) (a regs : Int) (r : (Int × List Blk) × Ps) (sv : SV) (H' : List Ob) (G' : Gh) : Prop :=
  sv = .tup [] ∧ ∃ vals, H' = [curL A bs c r.2, ccO, fO a regs, bkO r.1.2.length vals] ∧ kBlk.Cs G' r.1.2 vals
end Go.Proofs.Ytkhajngpcgmpnaa.Cu
