/- A symbolic walk: what follows a loop is put aside while its body is walked. -/
import Derived.Test.YtgdfhpknhcjipaaSXG
namespace Go.SX
theorem stop_eq (A : Prop) : Stop A = A := propext ⟨fun h => h.out, fun h => ⟨h⟩⟩
/-- What follows the loop is K0 while the loop is walked. -/
theorem loop_opq {P : Program} {E : Env} {body : Code} {s : St} {K : Kont} (h : ∀ K0 : Kont, (∀ e s', K e s' → K0 e s') → LoopVC P E body s fun e s' => Stop (K0 e s')) : LoopVC P E body s K := by
  have h1 := h K fun _ _ x => x
  have h2 : (fun e s' => Stop (K e s')) = K := funext fun e => funext fun s' => stop_eq _
  rw [h2] at h1
  exact h1
end Go.SX
