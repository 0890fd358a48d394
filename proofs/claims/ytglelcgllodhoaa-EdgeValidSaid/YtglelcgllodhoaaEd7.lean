/- Edges: a pair as an argument of a law. -/
import Derived.Test.YtglelcgllodhoaaEd6
import Derived.Test.YtglelcgllodhoaaOp3
namespace Go.Proofs.Ytglelcgllodhoaa.Cu
open Go Go.SX Go.Proofs.Ytglelcgllodhoaa.VT
set_option maxRecDepth 100000
structure PrL where
  p : Pr
def PrL.l (x : PrL) : List Int := [x.p.v, x.p.l]
def PrL.ok (x : PrL) : Prop := in64 x.p.v ∧ in64 x.p.l
def kPrL : Kd PrL where
  sz := 2
  R _ x cs := cs = i64s x.l ∧ x.ok
  len h := by rw [h.1]; rfl
  one h := by rw [h.1]; intro v hv; simp [i64s, PrL.l] at hv; rcases hv with rfl | rfl <;> rfl
  mono _ h := h
theorem opens_prL : Opens Try.prog 25 kPrL := by
  refine opens_struct (by kernel_rfl) Try.underlying25 (consE 1 1 opens_int_ rfl rfl rfl (consE 2 0 opens_loc rfl rfl rfl (.nil _))) ?_
  rintro G ⟨a, b, _⟩ cs ⟨_, _, rfl, ⟨rfl, ha⟩, _, _, rfl, ⟨rfl, hb⟩, rfl⟩
  exact ⟨⟨⟨a, b⟩⟩, rfl, ha, hb⟩
end Go.Proofs.Ytglelcgllodhoaa.Cu
