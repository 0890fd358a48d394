/- What lies in the world: blocks and functions of machines. -/
import Derived.Test.YtihnbkoeaaepiaaOpx
namespace Go.Proofs.Ytihnbkoeaaepiaa.Cu
open Go Go.SX Go.Proofs.Ytihnbkoeaaepiaa.VT
set_option maxRecDepth 100000
def kMFn : Kd MFn where
  sz := 4
  R G f cs := ∃ A c, cs = [.int .i64 f.args, .int .i64 f.regs, .int .i64 f.slots, .slice A f.blocks.length c] ∧ kMBlk.S G A c f.blocks ∧ in64 f.args ∧ in64 f.regs ∧ in64 f.slots
  len h := by obtain ⟨A, c, rfl, _⟩ := h; rfl
  one h := by
    obtain ⟨A, c, rfl, _⟩ := h
    intro v hv
    simp at hv
    rcases hv with rfl | rfl | rfl | rfl <;> rfl
  mono hg h := by obtain ⟨A, c, h1, h2, h3⟩ := h; exact ⟨A, c, h1, h2.to hg, h3⟩
theorem opens_macs : Opens Try.prog 70 (kS kMac) := opens_slice (by kernel_rfl) Try.underlying70 opens_mac
theorem opens_mblk : Opens Try.prog 74 kMBlk := by
  refine opens_struct (by kernel_rfl) Try.underlying74 (consE 1 4 opens_macs rfl rfl rfl (consE 5 0 opens_trm rfl rfl rfl (.nil _))) ?_
  rintro G ⟨l, t, _⟩ cs ⟨_, _, rfl, ⟨A, c, rfl, hl⟩, _, _, rfl, ⟨rfl, ht⟩, rfl⟩
  exact ⟨⟨l, t⟩, A, c, by simp, hl, ht⟩
theorem opens_mblks : Opens Try.prog 62 (kS kMBlk) := opens_slice (by kernel_rfl) Try.underlying62 opens_mblk
theorem opens_mfn : Opens Try.prog 64 kMFn := by
  refine opens_struct (by kernel_rfl) Try.underlying64 (consE 1 3 opens_int_ rfl rfl rfl (consE 2 2 opens_int_ rfl rfl rfl (consE 3 1 opens_int_ rfl rfl rfl (consE 4 0 opens_mblks rfl rfl rfl (.nil _))))) ?_
  rintro G ⟨a, r, s, l, _⟩ cs ⟨_, _, rfl, ⟨rfl, ha⟩, _, _, rfl, ⟨rfl, hr⟩, _, _, rfl, ⟨rfl, hs⟩, _, _, rfl, ⟨A, c, rfl, hl⟩, rfl⟩
  exact ⟨⟨a, r, s, l⟩, A, c, rfl, hl, ha, hr, hs⟩
end Go.Proofs.Ytihnbkoeaaepiaa.Cu
