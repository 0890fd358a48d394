/- Opq: Op3, Op5, Op4 in one text. -/
import Derived.Test.YtkhajngpcgmpnaaWix
import Derived.Test.YtkhajngpcgmpnaaOpx
namespace Go.Proofs.Ytkhajngpcgmpnaa.Cu
open Go Go.SX Go.Proofs.Ytkhajngpcgmpnaa.VT
set_option maxRecDepth 100000
theorem opens_pr : Opens Try.prog 127 kPr := by
  refine opens_struct (by kernel_rfl) Try.underlying127 (consE 1 1 opens_int_ rfl rfl rfl (consE 2 0 opens_loc rfl rfl rfl (.nil _))) ?_
  rintro G ⟨a, b, _⟩ cs ⟨_, _, rfl, ⟨rfl, ha⟩, _, _, rfl, ⟨rfl, hb⟩, rfl⟩
  exact ⟨⟨a, b⟩, rfl, ha, hb⟩
theorem opens_prs : Opens Try.prog 51 kPrs := opens_slice (by kernel_rfl) Try.underlying51 opens_pr
theorem opens_prss : Opens Try.prog 37 (kS kPrs) := opens_slice (by kernel_rfl) Try.underlying37 opens_prs
end Go.Proofs.Ytkhajngpcgmpnaa.Cu

namespace Go.Proofs.Ytkhajngpcgmpnaa.Cu
open Go Go.SX Go.Proofs.Ytkhajngpcgmpnaa.VT
set_option maxRecDepth 100000
def kMFn : Kd MFn where
  sz := 4
  R G f cs := ∃ A c, cs = [.int .i64 f.args, .int .i64 f.regs, .int .i64 f.slots, .slice A f.blocks.length c] ∧ kMBlk.S G A c f.blocks ∧ in64 f.args ∧ in64 f.regs ∧ in64 f.slots
  len h := by obtain ⟨A, c, rfl, _⟩ := h; rfl
  one h := by
    obtain ⟨A, c, rfl, _⟩ := h
    intro v hv
    simp at hv
    rcases hv with rfl | rfl | rfl | rfl <;> rfl
  mono hg h := by obtain ⟨A, c, h1, h2, h3⟩ := h; exact ⟨A, c, h1, h2.to hg, h3⟩
theorem opens_macs : Opens Try.prog 48 (kS kMac) := opens_slice (by kernel_rfl) Try.underlying48 opens_mac
theorem opens_mblk : Opens Try.prog 50 kMBlk := by
  refine opens_struct (by kernel_rfl) Try.underlying50 (consE 1 4 opens_macs rfl rfl rfl (consE 5 0 opens_trm rfl rfl rfl (.nil _))) ?_
  rintro G ⟨l, t, _⟩ cs ⟨_, _, rfl, ⟨A, c, rfl, hl⟩, _, _, rfl, ⟨rfl, ht⟩, rfl⟩
  exact ⟨⟨l, t⟩, A, c, by simp, hl, ht⟩
theorem opens_mblks : Opens Try.prog 34 (kS kMBlk) := opens_slice (by kernel_rfl) Try.underlying34 opens_mblk
theorem opens_mfn : Opens Try.prog 36 kMFn := by
  refine opens_struct (by kernel_rfl) Try.underlying36 (consE 1 3 opens_int_ rfl rfl rfl (consE 2 2 opens_int_ rfl rfl rfl (consE 3 1 opens_int_ rfl rfl rfl (consE 4 0 opens_mblks rfl rfl rfl (.nil _))))) ?_
  rintro G ⟨a, r, s, l, _⟩ cs ⟨_, _, rfl, ⟨rfl, ha⟩, _, _, rfl, ⟨rfl, hr⟩, _, _, rfl, ⟨rfl, hs⟩, _, _, rfl, ⟨A, c, rfl, hl⟩, rfl⟩
  exact ⟨⟨a, r, s, l⟩, A, c, rfl, hl, ha, hr, hs⟩
end Go.Proofs.Ytkhajngpcgmpnaa.Cu

namespace Go.Proofs.Ytkhajngpcgmpnaa.Cu
open Go Go.SX Go.Proofs.Ytkhajngpcgmpnaa.VT
set_option maxRecDepth 100000
def kFn : Kd Fn where
  sz := 3
  R G f cs := ∃ A c, cs = [.int .i64 f.args, .int .i64 f.regs, .slice A f.blocks.length c] ∧ kBlk.S G A c f.blocks ∧ in64 f.args ∧ in64 f.regs
  len h := by obtain ⟨A, c, rfl, _⟩ := h; rfl
  one h := by
    obtain ⟨A, c, rfl, _⟩ := h
    intro v hv
    simp at hv
    rcases hv with rfl | rfl | rfl <;> rfl
  mono hg h := by obtain ⟨A, c, h1, h2, h3⟩ := h; exact ⟨A, c, h1, h2.to hg, h3⟩
theorem opens_inss : Opens Try.prog 43 (kS kIns) := opens_slice (by kernel_rfl) Try.underlying43 opens_ins
theorem opens_blk : Opens Try.prog 47 kBlk := by
  refine opens_struct (by kernel_rfl) Try.underlying47 (consE 1 4 opens_inss rfl rfl rfl (consE 5 0 opens_trm rfl rfl rfl (.nil _))) ?_
  rintro G ⟨l, t, _⟩ cs ⟨_, _, rfl, ⟨A, c, rfl, hl⟩, _, _, rfl, ⟨rfl, ht⟩, rfl⟩
  exact ⟨⟨l, t⟩, A, c, by simp, hl, ht⟩
theorem opens_blks : Opens Try.prog 31 (kS kBlk) := opens_slice (by kernel_rfl) Try.underlying31 opens_blk
theorem opens_fn : Opens Try.prog 33 kFn := by
  refine opens_struct (by kernel_rfl) Try.underlying33 (consE 1 2 opens_int_ rfl rfl rfl (consE 2 1 opens_int_ rfl rfl rfl (consE 3 0 opens_blks rfl rfl rfl (.nil _)))) ?_
  rintro G ⟨a, r, l, _⟩ cs ⟨_, _, rfl, ⟨rfl, ha⟩, _, _, rfl, ⟨rfl, hr⟩, _, _, rfl, ⟨A, c, rfl, hl⟩, rfl⟩
  exact ⟨⟨a, r, l⟩, A, c, rfl, hl, ha, hr⟩
end Go.Proofs.Ytkhajngpcgmpnaa.Cu
