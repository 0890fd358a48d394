/- The law's own check. -/
import Derived.Test.YtgdfhpknhcjipaaCu6
namespace Go.Proofs.Ytgdfhpknhcjipaa.Cu
open Go Go.SX Go.Proofs.Ytgdfhpknhcjipaa.VT
set_option maxRecDepth 100000
set_option linter.unusedVariables false
set_option linter.unusedSimpArgs false

theorem SlB.of {G : Gh} {A : Option Addr} {n c sz : Nat} {xs : List Value} (l : List Int) (h : Sl G A n c sz xs) (h1 : n = l.length) (h2 : sz = 1) (h3 : xs = byts l) : SlB G A c l := by subst h1 h2 h3; exact h
theorem SlB.to {G G' : Gh} {A : Option Addr} {c : Nat} {l : List Int} (h : SlB G A c l) (hg : Ghe G G') : SlB G' A c l :=
  ⟨h.len, h.cap, h.top, fun ad had j v hj => by
    have := h.there ad had j v hj
    unfold Gcell at this ⊢
    split at this <;> rename_i hx
    · rw [hg _ _ hx]; exact this
    · simp at this, h.nil, h.ones⟩
instance (l : List Int) : Decidable (isB l) := inferInstanceAs (Decidable (∀ x ∈ l, 0 ≤ x ∧ x ≤ 255))
def b1 : List Int := [172, 2, 5]
def b2 : List Int := [2, 0, 0, 0]
theorem b1_is : isB b1 := by decide
theorem b2_is : isB b2 := by decide
end Go.Proofs.Ytgdfhpknhcjipaa.Cu
