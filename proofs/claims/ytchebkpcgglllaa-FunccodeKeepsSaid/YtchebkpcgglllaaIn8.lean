/- The reference's instructions and terminators: what is read. -/
import Derived.Test.YtchebkpcgglllaaIn7
import Derived.Test.YtchebkpcgglllaaIny
namespace Go.Proofs.Ytchebkpcgglllaa.Cu
open Go Go.SX Go.Proofs.Ytchebkpcgglllaa.VT
set_option maxRecDepth 100000
set_option linter.unusedVariables false
set_option linter.unusedSimpArgs false

theorem optN_err {u : Bool} {bound why : Int} {p : Ps} (h : p.2 ≠ 0) : optN u bound why p = (0, p) := by
  cases u
  · rfl
  · exact sNum_err h
theorem optI_err {u : Bool} {p : Ps} (h : p.2 ≠ 0) : optI u p = (0, p) := by
  cases u
  · rfl
  · exact sInt_err h
theorem sFlds_err {op regs : Int} {p : Ps} (h : p.2 ≠ 0) : sFlds op regs p = ((0, 0, 0, 0), p) := by
  unfold sFlds
  simp only [optN_err h, optI_err h]
theorem sPlace_err {regs slots : Int} {q : Ps} (hq : q.2 ≠ 0) : (sPlace regs slots q).2 = q := by
  unfold sPlace; simp only; rw [sUint_err hq, if_neg (fun h => hq h.1)]
theorem sMove_err {regs slots : Int} {p : Ps} (h : p.2 ≠ 0) : (sMove regs slots p).2 = p := by
  unfold sMove; simp only [sPlace_err h, sFail_err h, ite_self]
theorem sRead_err {op regs slots : Int} {p : Ps} (h : p.2 ≠ 0) : sRead op regs slots p = (mac0, p) := by
  unfold sRead
  split
  · simp only [sMove_err h, h, if_false]
  · simp only [sFlds_err h, h, if_false]
def Mac.ins (m : Mac) : Ins := ⟨m.op, m.d, m.a, m.b, m.imm⟩
theorem sIns_is {regs : Int} {p : Ps} (h : (sFirst srcOp 8 p).1 ≠ 18) : sIns regs p = ((sRead (sFirst srcOp 8 p).1 regs 0 (sFirst srcOp 8 p).2).1.ins, (sRead (sFirst srcOp 8 p).1 regs 0 (sFirst srcOp 8 p).2).2) := by
  unfold sIns sRead
  rw [if_neg h]
  simp only
  split <;> rfl
theorem sIns_err {regs : Int} {p : Ps} (h : (sFirst srcOp 8 p).2.2 ≠ 0) : sIns regs p = (⟨0, 0, 0, 0, 0⟩, (sFirst srcOp 8 p).2) := by
  unfold sIns
  simp only [sFlds_err h, h, if_false]
theorem srcOp_good : srcOp = goodR 17 0 := by
  funext x; unfold srcOp goodR known; rw [decide_eq_decide]; omega
theorem machOp_good : machOp = goodR 18 2 := by
  funext x; unfold machOp goodR known; rw [decide_eq_decide]; omega
theorem trmKind_good : trmKind = goodR 3 0 := by
  funext x; unfold trmKind goodR; rw [decide_eq_decide]; omega
theorem sFirst_good {good : Int → Bool} {why : Int} {p : Ps} (hw : why ≠ 0) (h : (sFirst good why p).2.2 = 0) : good (sFirst good why p).1 = true := by
  unfold sFirst at *
  simp only at *
  by_cases hg : good (sByte p).1 = true
  · exact hg
  · rw [if_neg hg] at h
    by_cases he : (sByte p).2.2 = 0
    · rw [sFail_of he] at h; exact absurd h hw
    · rw [sFail_err he] at h; exact absurd h he
theorem sTrm_is (regs blocks : Int) (p : Ps) : sTrm regs blocks p = (if (sTf (sFirst trmKind 16 p).1 regs blocks (sFirst trmKind 16 p).2).2.2 = 0 then ⟨(sFirst trmKind 16 p).1, (sTf (sFirst trmKind 16 p).1 regs blocks (sFirst trmKind 16 p).2).1.1, (sTf (sFirst trmKind 16 p).1 regs blocks (sFirst trmKind 16 p).2).1.2.1, (sTf (sFirst trmKind 16 p).1 regs blocks (sFirst trmKind 16 p).2).1.2.2⟩ else trm0, (sTf (sFirst trmKind 16 p).1 regs blocks (sFirst trmKind 16 p).2).2) := rfl
theorem sTf_err {k regs blocks : Int} {p : Ps} (h : p.2 ≠ 0) : sTf k regs blocks p = ((0, 0, 0), p) := by
  unfold sTf
  simp only [optN_err h]
theorem sTrm_err {regs blocks : Int} {p : Ps} (h : (sFirst trmKind 16 p).2.2 ≠ 0) : sTrm regs blocks p = (trm0, (sFirst trmKind 16 p).2) := by
  rw [sTrm_is, sTf_err h]
  simp only [h, if_false]
end Go.Proofs.Ytchebkpcgglllaa.Cu
