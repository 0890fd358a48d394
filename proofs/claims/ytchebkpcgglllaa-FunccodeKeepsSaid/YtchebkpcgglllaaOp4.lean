/- What lies in the world: blocks and functions. -/
import Derived.Test.YtchebkpcgglllaaOp5
namespace Go.Proofs.Ytchebkpcgglllaa.Cu
open Go Go.SX Go.Proofs.Ytchebkpcgglllaa.VT
set_option maxRecDepth 100000
def kFn : Kd Fn where
  sz := 3
  R G f cs := ∃ A c, cs = [.int .i64 f.args, .int .i64 f.regs, .slice A f.blocks.length c] ∧ kBlk.S G A c f.blocks ∧ in64 f.args ∧ in64 f.regs
  len h := by obtain ⟨A, c, rfl, _⟩ := h; rfl
  one h := by
    obtain ⟨A, c, rfl, _⟩ := h
    intro v hv
    simp at hv
    rcases hv with rfl | rfl | rfl <;> rfl
  mono hg h := by obtain ⟨A, c, h1, h2, h3⟩ := h; exact ⟨A, c, h1, h2.to hg, h3⟩
theorem opens_inss : Opens Try.prog 45 (kS kIns) := opens_slice (by kernel_rfl) Try.underlying45 opens_ins
theorem opens_blk : Opens Try.prog 49 kBlk := by
  refine opens_struct (by kernel_rfl) Try.underlying49 (consE 1 4 opens_inss rfl rfl rfl (consE 5 0 opens_trm rfl rfl rfl (.nil _))) ?_
  rintro G ⟨l, t, _⟩ cs ⟨_, _, rfl, ⟨A, c, rfl, hl⟩, _, _, rfl, ⟨rfl, ht⟩, rfl⟩
  exact ⟨⟨l, t⟩, A, c, by simp, hl, ht⟩
theorem opens_blks : Opens Try.prog 34 (kS kBlk) := opens_slice (by kernel_rfl) Try.underlying34 opens_blk
theorem opens_fn : Opens Try.prog 36 kFn := by
  refine opens_struct (by kernel_rfl) Try.underlying36 (consE 1 2 opens_int_ rfl rfl rfl (consE 2 1 opens_int_ rfl rfl rfl (consE 3 0 opens_blks rfl rfl rfl (.nil _)))) ?_
  rintro G ⟨a, r, l, _⟩ cs ⟨_, _, rfl, ⟨rfl, ha⟩, _, _, rfl, ⟨rfl, hr⟩, _, _, rfl, ⟨A, c, rfl, hl⟩, rfl⟩
  exact ⟨⟨a, r, l⟩, A, c, rfl, hl, ha, hr⟩
end Go.Proofs.Ytchebkpcgglllaa.Cu
