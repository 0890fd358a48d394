/- Opy: Op3, Op5, Op4, OpC in one text. -/
import Derived.Test.YtchebkpcgglllaaGreatWi3
import Derived.Test.YtchebkpcgglllaaGreatNux
import Derived.Test.YtchebkpcgglllaaGreatDcH
namespace Go.Proofs.YtchebkpcgglllaaGreat.Cu
open Go Go.SX Go.Proofs.YtchebkpcgglllaaGreat.VT
set_option maxRecDepth 100000
theorem opens_pr : Opens Tryz.prog 55 kPr := by
  refine opens_struct (by kernel_rfl) Tryz.underlying55 (consE 1 1 opens_int_ rfl rfl rfl (consE 2 0 opens_loc rfl rfl rfl (.nil _))) ?_
  rintro G ⟨a, b, _⟩ cs ⟨_, _, rfl, ⟨rfl, ha⟩, _, _, rfl, ⟨rfl, hb⟩, rfl⟩
  exact ⟨⟨a, b⟩, rfl, ha, hb⟩
theorem opens_prs : Opens Tryz.prog 52 kPrs := opens_slice (by kernel_rfl) Tryz.underlying52 opens_pr
theorem opens_prss : Opens Tryz.prog 29 (kS kPrs) := opens_slice (by kernel_rfl) Tryz.underlying29 opens_prs
end Go.Proofs.YtchebkpcgglllaaGreat.Cu

namespace Go.Proofs.YtchebkpcgglllaaGreat.Cu
open Go Go.SX Go.Proofs.YtchebkpcgglllaaGreat.VT
set_option maxRecDepth 100000
def kMFn : Kd MFn where
  sz := 4
  R G f cs := ∃ A c, cs = [.int .i64 f.args, .int .i64 f.regs, .int .i64 f.slots, .slice A f.blocks.length c] ∧ kMBlk.S G A c f.blocks ∧ in64 f.args ∧ in64 f.regs ∧ in64 f.slots
  len h := by obtain ⟨A, c, rfl, _⟩ := h; rfl
  one h := by
    obtain ⟨A, c, rfl, _⟩ := h
    intro v hv
    simp at hv
    rcases hv with rfl | rfl | rfl | rfl <;> rfl
  mono hg h := by obtain ⟨A, c, h1, h2, h3⟩ := h; exact ⟨A, c, h1, h2.to hg, h3⟩
theorem opens_macs : Opens Tryz.prog 61 (kS kMac) := opens_slice (by kernel_rfl) Tryz.underlying61 opens_mac
theorem opens_mblk : Opens Tryz.prog 63 kMBlk := by
  refine opens_struct (by kernel_rfl) Tryz.underlying63 (consE 1 4 opens_macs rfl rfl rfl (consE 5 0 opens_trm rfl rfl rfl (.nil _))) ?_
  rintro G ⟨l, t, _⟩ cs ⟨_, _, rfl, ⟨A, c, rfl, hl⟩, _, _, rfl, ⟨rfl, ht⟩, rfl⟩
  exact ⟨⟨l, t⟩, A, c, by simp, hl, ht⟩
theorem opens_mblks : Opens Tryz.prog 26 (kS kMBlk) := opens_slice (by kernel_rfl) Tryz.underlying26 opens_mblk
theorem opens_mfn : Opens Tryz.prog 28 kMFn := by
  refine opens_struct (by kernel_rfl) Tryz.underlying28 (consE 1 3 opens_int_ rfl rfl rfl (consE 2 2 opens_int_ rfl rfl rfl (consE 3 1 opens_int_ rfl rfl rfl (consE 4 0 opens_mblks rfl rfl rfl (.nil _))))) ?_
  rintro G ⟨a, r, s, l, _⟩ cs ⟨_, _, rfl, ⟨rfl, ha⟩, _, _, rfl, ⟨rfl, hr⟩, _, _, rfl, ⟨rfl, hs⟩, _, _, rfl, ⟨A, c, rfl, hl⟩, rfl⟩
  exact ⟨⟨a, r, s, l⟩, A, c, rfl, hl, ha, hr, hs⟩
end Go.Proofs.YtchebkpcgglllaaGreat.Cu

namespace Go.Proofs.YtchebkpcgglllaaGreat.Cu
open Go Go.SX Go.Proofs.YtchebkpcgglllaaGreat.VT
set_option maxRecDepth 100000
def kFn : Kd Fn where
  sz := 3
  R G f cs := ∃ A c, cs = [.int .i64 f.args, .int .i64 f.regs, .slice A f.blocks.length c] ∧ kBlk.S G A c f.blocks ∧ in64 f.args ∧ in64 f.regs
  len h := by obtain ⟨A, c, rfl, _⟩ := h; rfl
  one h := by
    obtain ⟨A, c, rfl, _⟩ := h
    intro v hv
    simp at hv
    rcases hv with rfl | rfl | rfl <;> rfl
  mono hg h := by obtain ⟨A, c, h1, h2, h3⟩ := h; exact ⟨A, c, h1, h2.to hg, h3⟩
theorem opens_inss : Opens Tryz.prog 58 (kS kIns) := opens_slice (by kernel_rfl) Tryz.underlying58 opens_ins
theorem opens_blk : Opens Tryz.prog 60 kBlk := by
  refine opens_struct (by kernel_rfl) Tryz.underlying60 (consE 1 4 opens_inss rfl rfl rfl (consE 5 0 opens_trm rfl rfl rfl (.nil _))) ?_
  rintro G ⟨l, t, _⟩ cs ⟨_, _, rfl, ⟨A, c, rfl, hl⟩, _, _, rfl, ⟨rfl, ht⟩, rfl⟩
  exact ⟨⟨l, t⟩, A, c, by simp, hl, ht⟩
theorem opens_blks : Opens Tryz.prog 23 (kS kBlk) := opens_slice (by kernel_rfl) Tryz.underlying23 opens_blk
theorem opens_fn : Opens Tryz.prog 25 kFn := by
  refine opens_struct (by kernel_rfl) Tryz.underlying25 (consE 1 2 opens_int_ rfl rfl rfl (consE 2 1 opens_int_ rfl rfl rfl (consE 3 0 opens_blks rfl rfl rfl (.nil _)))) ?_
  rintro G ⟨a, r, l, _⟩ cs ⟨_, _, rfl, ⟨rfl, ha⟩, _, _, rfl, ⟨rfl, hr⟩, _, _, rfl, ⟨A, c, rfl, hl⟩, rfl⟩
  exact ⟨⟨a, r, l⟩, A, c, rfl, hl, ha, hr⟩
end Go.Proofs.YtchebkpcgglllaaGreat.Cu

namespace Go.Proofs.YtchebkpcgglllaaGreat.Cu
open Go Go.SX Go.Proofs.YtchebkpcgglllaaGreat.VT
set_option maxRecDepth 100000
def kCrt : Kd Crt where
  sz := 8
  R G x cs := ∃ A a B b C c, cs = crtL A B C a b c x ∧ CrtG G A B C a b c x
  len h := by obtain ⟨A, a, B, b, C, c, rfl, _⟩ := h; rfl
  one h := by
    obtain ⟨A, a, B, b, C, c, rfl, _⟩ := h
    intro v hv
    simp [crtL] at hv
    rcases hv with rfl | rfl | rfl | rfl | rfl | rfl | rfl | rfl <;> rfl
  mono hg h := by obtain ⟨A, a, B, b, C, c, h1, h2⟩ := h; exact ⟨A, a, B, b, C, c, h1, h2.to hg⟩
theorem opens_crt : Opens Tryz.prog 31 kCrt := by
  refine opens_struct (by kernel_rfl) Tryz.underlying31 (consE 3 5 opens_fn rfl rfl rfl (consE 7 1 opens_mfn rfl rfl rfl (consE 8 0 opens_prss rfl rfl rfl (.nil _)))) ?_
  rintro G ⟨f, m, l, _⟩ cs ⟨_, _, rfl, ⟨A, a, rfl, hs, _, _⟩, _, _, rfl, ⟨B, b, rfl, ht, _, _, _⟩, _, _, rfl, ⟨C, c, rfl, hw⟩, rfl⟩
  exact ⟨⟨f, m, l⟩, A, a, B, b, C, c, rfl, hs, ht, hw⟩
end Go.Proofs.YtchebkpcgglllaaGreat.Cu
