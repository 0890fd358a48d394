/- Codecs: numbers below a bound. -/
import Derived.Test.YtgdfhpknhcjipaaCod
import Derived.Test.YtgdfhpknhcjipaaNu
namespace Go.Proofs.Ytgdfhpknhcjipaa.Cu
open Go Go.SX Go.Proofs.Ytgdfhpknhcjipaa.VT
set_option maxRecDepth 100000
set_option linter.unusedVariables false
set_option linter.unusedSimpArgs false

variable {sh : Int → Prop}
theorem Cod.num (h1 : sh 1) (hnz : ∀ e, sh e → e ≠ 0) (bound why : Int) (hb : bound ≤ 9223372036854775808) (hw : why ≠ 0) : Cod sh (sNum bound why) pU (fun x => 0 ≤ x ∧ x < bound) := by
  have hp : ∀ x : Int, 0 ≤ x → x < bound → pU x = putB x.toNat := fun x h h2 => by unfold pU; rw [u64_in (by omega) (by omega)]
  have hz : 0 < bound ∨ bound ≤ 0 := by omega
  refine ((Cod.uint h1 hnz maxU).chk (fun p => if bound ≤ (sUint maxU p).1 then ((sUint maxU p).1, sFail why (sUint maxU p).2) else sUint maxU p) (fun x => x < bound) ?_ ?_ ?_).map _ _ _ id id ?_ ?_ ?_
  · intro p hp
    try dsimp only
    split
    · rw [sFail_err hp]
    · rfl
  · intro p hp hg
    try dsimp only
    rw [if_neg (by omega)]
  · intro p hp hg
    try dsimp only
    rw [if_pos (by omega)]
    exact sFail_ne hw
  · intro p
    unfold sNum
    try dsimp only
    split
    · refine ⟨rfl, fun h => absurd h (sFail_ne hw)⟩
    · exact ⟨rfl, fun _ => rfl⟩
  · intro y h
    exact ⟨⟨⟨h.1, by simp only [id]; omega, by simp only [id]; unfold maxU; omega⟩, h.2⟩, rfl, hp y h.1 h.2⟩
  · intro x h
    exact ⟨⟨h.1.1, h.2⟩, hp x h.1.1 h.2⟩
end Go.Proofs.Ytgdfhpknhcjipaa.Cu
