/- What lies in the world: certificates. -/
import Derived.Test.YtkhajngpcgmpnaaOpq
import Derived.Test.YtkhajngpcgmpnaaDcH
namespace Go.Proofs.Ytkhajngpcgmpnaa.Cu
open Go Go.SX Go.Proofs.Ytkhajngpcgmpnaa.VT
set_option maxRecDepth 100000
def kCrt : Kd Crt where
  sz := 8
  R G x cs := ∃ A a B b C c, cs = crtL A B C a b c x ∧ CrtG G A B C a b c x
  len h := by obtain ⟨A, a, B, b, C, c, rfl, _⟩ := h; rfl
  one h := by
    obtain ⟨A, a, B, b, C, c, rfl, _⟩ := h
    intro v hv
    simp [crtL] at hv
    rcases hv with rfl | rfl | rfl | rfl | rfl | rfl | rfl | rfl <;> rfl
  mono hg h := by obtain ⟨A, a, B, b, C, c, h1, h2⟩ := h; exact ⟨A, a, B, b, C, c, h1, h2.to hg⟩
theorem opens_crt : Opens Try.prog 39 kCrt := by
  refine opens_struct (by kernel_rfl) Try.underlying39 (consE 3 5 opens_fn rfl rfl rfl (consE 7 1 opens_mfn rfl rfl rfl (consE 8 0 opens_prss rfl rfl rfl (.nil _)))) ?_
  rintro G ⟨f, m, l, _⟩ cs ⟨_, _, rfl, ⟨A, a, rfl, hs, _, _⟩, _, _, rfl, ⟨B, b, rfl, ht, _, _, _⟩, _, _, rfl, ⟨C, c, rfl, hw⟩, rfl⟩
  exact ⟨⟨f, m, l⟩, A, a, B, b, C, c, rfl, hs, ht, hw⟩
end Go.Proofs.Ytkhajngpcgmpnaa.Cu
