/- The law: what is cut off is too short. -/
import Derived.Test.YtchebkpcgglllaaGreatWi7
namespace Go.Proofs.YtchebkpcgglllaaGreat.Cu
open Go Go.SX Go.Proofs.YtchebkpcgglllaaGreat.VT
set_option maxRecDepth 100000
set_option linter.unusedVariables false
set_option linter.unusedSimpArgs false

theorem isB_nil' : isB [] := fun x hx => by simp at hx
theorem isB_app3 {l m : List Int} (h : isB l) (h2 : isB m) : isB (l ++ m) := fun x hx => by
  rcases List.mem_append.1 hx with hx | hx
  · exact h x hx
  · exact h2 x hx
theorem putB_isb' (n : Nat) (h : n < 18446744073709551616) : isB (putB n) := vput_byte 9 n (by simpa using h)
theorem pU_isb' (n : Int) : isB (pU n) := putB_isb' _ (by have := pU_nat n; omega)
theorem encPrs_isb (ps : List Pr) : ∀ s, isB (encL encPr nxP s ps) := by
  induction ps with
  | nil => exact fun s => isB_nil'
  | cons p ps ih =>
    intro s
    refine isB_app3 (isB_app3 (pU_isb' _) ?_) (ih _)
    split
    · exact pU_isb' _
    · exact pU_isb' _
theorem encI_isb : ∀ (l : List (List Pr)), (∀ x ∈ l, x.length ≤ 1000000) → isB (encI l)
  | [], _ => isB_nil'
  | x :: l, h => isB_app3 (isB_app3 (putB_isb' _ (by have := h x (by simp); omega)) (encPrs_isb x _)) (encI_isb l fun y hy => h y (by simp [hy]))
end Go.Proofs.YtchebkpcgglllaaGreat.Cu
