/- The law: what is cut off is too short. -/
import Derived.Test.YtkhajngpcgmpnaaWix
namespace Go.Proofs.Ytkhajngpcgmpnaa.Cu
open Go Go.SX Go.Proofs.Ytkhajngpcgmpnaa.VT
set_option maxRecDepth 100000
set_option linter.unusedVariables false
set_option linter.unusedSimpArgs false

theorem sh1' : ∀ e : Int, e = 1 → e ≠ 0 := by omega
theorem isB_nil' : isB [] := fun x hx => by simp at hx
theorem isB_app3 {l m : List Int} (h : isB l) (h2 : isB m) : isB (l ++ m) := fun x hx => by
  rcases List.mem_append.1 hx with hx | hx
  · exact h x hx
  · exact h2 x hx
theorem putB_isb' (n : Nat) (h : n < 18446744073709551616) : isB (putB n) := vput_byte 9 n (by simpa using h)
theorem pU_isb' (n : Int) : isB (pU n) := putB_isb' _ (by have := pU_nat n; omega)
theorem encPrs_isb (ps : List Pr) : ∀ s, isB (encL encPr nxP s ps) := by
  induction ps with
  | nil => exact fun s => isB_nil'
  | cons p ps ih =>
    intro s
    refine isB_app3 (isB_app3 (pU_isb' _) ?_) (ih _)
    split
    · exact pU_isb' _
    · exact pU_isb' _
theorem encI_isb : ∀ (l : List (List Pr)), (∀ x ∈ l, x.length ≤ 1000000) → isB (encI l)
  | [], _ => isB_nil'
  | x :: l, h => isB_app3 (isB_app3 (putB_isb' _ (by have := h x (by simp); omega)) (encPrs_isb x _)) (encI_isb l fun y hy => h y (by simp [hy]))
/-- What the row says of the argument. -/
theorem wlaw {vregs regs slots : Int} (hv : 0 ≤ vregs ∧ vregs ≤ 1000000000) (hr : regs ≤ 1000000000) (hs : slots ≤ 1000000000) (n : Nat) :
    Cod (fun e => e = 1) (sInv vregs regs slots n) encI (fun l => l.length = n ∧ okInv vregs regs slots l) :=
  (Cod.inv (sh := fun e => e = 1) rfl sh1' hv hr hs n).congr (fun _ => rfl) (fun l _ => (encI_eq 0 l).symm) (fun _ => Iff.rfl)
end Go.Proofs.Ytkhajngpcgmpnaa.Cu
