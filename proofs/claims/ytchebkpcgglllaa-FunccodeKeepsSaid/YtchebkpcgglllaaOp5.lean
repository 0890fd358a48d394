/- What lies in the world: blocks and functions of machines. -/
import Derived.Test.YtchebkpcgglllaaOpx
namespace Go.Proofs.Ytchebkpcgglllaa.Cu
open Go Go.SX Go.Proofs.Ytchebkpcgglllaa.VT
set_option maxRecDepth 100000
def kMFn : Kd MFn where
  sz := 4
  R G f cs := ∃ A c, cs = [.int .i64 f.args, .int .i64 f.regs, .int .i64 f.slots, .slice A f.blocks.length c] ∧ kMBlk.S G A c f.blocks ∧ in64 f.args ∧ in64 f.regs ∧ in64 f.slots
  len h := by obtain ⟨A, c, rfl, _⟩ := h; rfl
  one h := by
    obtain ⟨A, c, rfl, _⟩ := h
    intro v hv
    simp at hv
    rcases hv with rfl | rfl | rfl | rfl <;> rfl
  mono hg h := by obtain ⟨A, c, h1, h2, h3⟩ := h; exact ⟨A, c, h1, h2.to hg, h3⟩
end Go.Proofs.Ytchebkpcgglllaa.Cu
