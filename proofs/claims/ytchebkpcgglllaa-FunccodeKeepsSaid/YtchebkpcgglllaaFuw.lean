/- Functions: how long what is written is. -/
import Derived.Test.YtchebkpcgglllaaFu8
import Derived.Test.YtchebkpcgglllaaFu3
namespace Go.Proofs.Ytchebkpcgglllaa.Cu
open Go Go.SX Go.Proofs.Ytchebkpcgglllaa.VT
set_option maxRecDepth 100000
set_option linter.unusedVariables false
set_option linter.unusedSimpArgs false
theorem flat_le {α : Type} (f : α → List Int) (b : Nat) : ∀ (l : List α), (∀ x ∈ l, (f x).length ≤ b) → ((l.map f).flatten).length ≤ b * l.length
  | [], _ => by simp
  | x :: l, h => by
    have h1 := flat_le f b l fun y hy => h y (by simp [hy])
    have h2 := h x (by simp)
    simp only [List.map_cons, List.flatten_cons, List.length_append, List.length_cons, Nat.mul_add]
    omega
theorem wBs_le : ∀ (l : List Blk), (wBs l).length ≤ 41 * l.length + 41 * totB l
  | [] => by simp [wBs]
  | b :: l => by
    have h1 := wBs_le l
    have h2 : (encCode b.code).length ≤ 41 * b.code.length := by rw [encCode_eq]; exact flat_le putInsB 41 b.code fun x _ => (putInsB_len x).2
    have h3 := putB_len b.code.length
    have h4 := (putTrmB_len b.term).2
    have h5 : (encB b).length = (putB b.code.length).length + (encCode b.code).length + (putTrmB b.term).length := by unfold encB; simp only [List.length_append]
    unfold wBs at *
    simp only [List.map_cons, List.flatten_cons, List.length_append, List.length_cons, totB, Nat.mul_add]
    omega
theorem okFn_ops {f : Fn} (h : okFn f) : opsB f.blocks := by
  obtain ⟨_, _, _, _, _, h6⟩ := (okFn_iff f).1 h
  intro b hb i hi
  exact ((h6 b hb).1 i hi).1.2
theorem okFn_trm {f : Fn} (h : okFn f) : trmsB f.blocks := by
  obtain ⟨_, _, _, _, _, h6⟩ := (okFn_iff f).1 h
  intro b hb
  exact (h6 b hb).2.1
theorem wFn_le (f : Fn) : (wFn f).length ≤ 40 + (wBs f.blocks).length := by
  have a1 := pU_len f.args
  have a2 := pU_len f.regs
  have a4 := putB_len f.blocks.length
  unfold wFn
  simp only [List.length_append]
  omega
end Go.Proofs.Ytchebkpcgglllaa.Cu
