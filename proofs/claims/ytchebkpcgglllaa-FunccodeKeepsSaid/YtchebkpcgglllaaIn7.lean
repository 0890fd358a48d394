/- The reference's instructions: what is read. -/
import Derived.Test.YtchebkpcgglllaaIn4e
import Derived.Test.YtchebkpcgglllaaIny
import Derived.Test.YtchebkpcgglllaaNux
namespace Go.Proofs.Ytchebkpcgglllaa.Cu
open Go Go.SX Go.Proofs.Ytchebkpcgglllaa.VT
set_option maxRecDepth 100000
set_option linter.unusedVariables false
set_option linter.unusedSimpArgs false

/-- The reference's first byte. -/
def goodR (most not_ : Int) (op : Int) : Bool := decide (1 ≤ op ∧ op ≤ most ∧ op ≠ not_)
theorem sFail_of {why : Int} {p : Ps} (h : p.2 = 0) : sFail why p = (p.1, why) := by unfold sFail failE; rw [if_pos h]
theorem sFail_err {why : Int} {p : Ps} (h : p.2 ≠ 0) : sFail why p = p := by unfold sFail failE; rw [if_neg h]
/-- A place is a number that is in range. -/
theorem sPlace_is {regs slots : Int} {p : Ps} (hb : isB p.1) (h1 : regs ≤ 1099511627776) (h2 : slots ≤ 1099511627776) : (sPlace regs slots p).2 = (if (sNum 4611686018427387904 10 p).2.2 = 0 ∧ ¬ inRange (sNum 4611686018427387904 10 p).1 regs slots then sFail 10 (sNum 4611686018427387904 10 p).2 else (sNum 4611686018427387904 10 p).2) ∧
    ((sNum 4611686018427387904 10 p).2.2 = 0 → (sPlace regs slots p).1 = (sNum 4611686018427387904 10 p).1) := by
  have hr := sUint_range (most := maxU) hb
  unfold sPlace sNum
  simp only
  generalize sUint maxU p = u at *
  by_cases h3 : 4611686018427387904 ≤ u.1
  · rw [if_pos h3]
    by_cases h0 : u.2.2 = 0
    · have hin : 4611686018427387904 < u.1 ∨ ¬ inRange (IntKind.i64.wrap u.1) regs slots := by
        by_cases h4 : 4611686018427387904 < u.1
        · exact .inl h4
        · right
          have : u.1 = 4611686018427387904 := by omega
          rw [this]
          unfold inRange
          rw [i64_in (by omega) (by omega)]
          omega
      rw [if_pos ⟨h0, hin⟩, sFail_of h0]
      simp
    · rw [if_neg (fun h => h0 h.1), sFail_err h0]
      simp [h0]
  · rw [if_neg h3]
    have hw : IntKind.i64.wrap u.1 = u.1 := i64_in (by omega) (by omega)
    rw [hw]
    refine ⟨?_, fun _ => rfl⟩
    by_cases h0 : u.2.2 = 0
    · by_cases h4 : inRange u.1 regs slots
      · rw [if_neg (by rintro ⟨_, h5 | h5⟩; omega; exact h5 h4), if_neg (by rintro ⟨_, h5⟩; exact h5 h4)]
      · rw [if_pos ⟨h0, .inr h4⟩, if_pos ⟨h0, h4⟩]
    · rw [if_neg (fun h => h0 h.1), if_neg (fun h => h0 h.1)]
theorem sNum_range {bound why : Int} {p : Ps} (hb : isB p.1) (h0 : 0 ≤ bound) : 0 ≤ (sNum bound why p).1 ∧ ((sNum bound why p).1 < bound ∨ (sNum bound why p).1 = 0) := by
  have hr := sUint_range (most := maxU) hb
  unfold sNum
  split
  · simp
  · omega
/-! ### read -/
/-- What is read behind the opcode. -/
def sRead (op regs slots : Int) (p : Ps) : Mac × Ps :=
  if op = 18 then
    let m := sMove regs slots p
    (if m.2.2 = 0 then ⟨op, 0, 0, 0, 0, m.1.1, m.1.2⟩ else mac0, m.2)
  else
    let f := sFlds op regs p
    (if f.2.2 = 0 then ⟨op, f.1.1, f.1.2.1, f.1.2.2.1, f.1.2.2.2, 0, 0⟩ else mac0, f.2)
theorem sMac_is (regs slots : Int) (p : Ps) : sMac regs slots p = sRead (sFirst machOp 8 p).1 regs slots (sFirst machOp 8 p).2 := rfl
end Go.Proofs.Ytchebkpcgglllaa.Cu
