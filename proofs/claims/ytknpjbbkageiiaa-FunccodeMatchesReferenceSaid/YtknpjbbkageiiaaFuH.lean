/- Functions: what is written is bytes, and how many. -/
import Derived.Test.YtknpjbbkageiiaaFuA
import Derived.Test.YtknpjbbkageiiaaFu8
import Derived.Test.YtknpjbbkageiiaaInw
namespace Go.Proofs.Ytknpjbbkageiiaa.Cu
open Go Go.SX Go.Proofs.Ytknpjbbkageiiaa.VT
set_option maxRecDepth 100000
set_option linter.unusedVariables false
set_option linter.unusedSimpArgs false

theorem flat_isb {α : Type} (f : α → List Int) : ∀ (l : List α), (∀ x ∈ l, isB (f x)) → isB (l.map f).flatten
  | [], _ => isB_nil
  | x :: l, h => by
    simp only [List.map_cons, List.flatten_cons]
    exact isB_app2 (h x (by simp)) (flat_isb f l fun y hy => h y (by simp [hy]))
theorem flat_le {α : Type} (f : α → List Int) (b : Nat) : ∀ (l : List α), (∀ x ∈ l, (f x).length ≤ b) → ((l.map f).flatten).length ≤ b * l.length
  | [], _ => by simp
  | x :: l, h => by
    have h1 := flat_le f b l fun y hy => h y (by simp [hy])
    have h2 := h x (by simp)
    simp only [List.map_cons, List.flatten_cons, List.length_append, List.length_cons, Nat.mul_add]
    omega
theorem wBs_le : ∀ (l : List Blk), (wBs l).length ≤ 41 * l.length + 41 * totB l
  | [] => by simp [wBs]
  | b :: l => by
    have h1 := wBs_le l
    have h2 : (encCode b.code).length ≤ 41 * b.code.length := by rw [encCode_eq]; exact flat_le putInsB 41 b.code fun x _ => (putInsB_len x).2
    have h3 := putB_len b.code.length
    have h4 := (putTrmB_len b.term).2
    have h5 : (encB b).length = (putB b.code.length).length + (encCode b.code).length + (putTrmB b.term).length := by unfold encB; simp only [List.length_append]
    unfold wBs at *
    simp only [List.map_cons, List.flatten_cons, List.length_append, List.length_cons, totB, Nat.mul_add]
    omega
theorem wMBs_le : ∀ (l : List MBlk), (wMBs l).length ≤ 41 * l.length + 61 * totMB l
  | [] => by simp [wMBs]
  | b :: l => by
    have h1 := wMBs_le l
    have h2 : (encMCode b.code).length ≤ 61 * b.code.length := by rw [encMCode_eq]; exact flat_le putMacB 61 b.code fun x _ => (putMacB_len x).2
    have h3 := putB_len b.code.length
    have h4 := (putTrmB_len b.term).2
    have h5 : (encMB b).length = (putB b.code.length).length + (encMCode b.code).length + (putTrmB b.term).length := by unfold encMB; simp only [List.length_append]
    unfold wMBs at *
    simp only [List.map_cons, List.flatten_cons, List.length_append, List.length_cons, totMB, Nat.mul_add]
    omega
theorem encB_isb {b : Blk} (h : ∀ i ∈ b.code, in64 i.imm) (hl : b.code.length < 18446744073709551616) : isB (encB b) := by
  unfold encB
  rw [encCode_eq]
  exact isB_app2 (isB_app2 (putB_isb _ hl) (flat_isb _ _ fun i hi => putInsB_isb i (h i hi))) (putTrmB_isb _)
theorem encMB_isb {b : MBlk} (h : ∀ i ∈ b.code, in64 i.imm) (hl : b.code.length < 18446744073709551616) : isB (encMB b) := by
  unfold encMB
  rw [encMCode_eq]
  exact isB_app2 (isB_app2 (putB_isb _ hl) (flat_isb _ _ fun i hi => putMacB_isb i (h i hi))) (putTrmB_isb _)
theorem pU_nn (n : Int) (h : 0 ≤ n ∧ n < 18446744073709551616) : pU n = putB n.toNat := by unfold pU; rw [u64_in (by omega) (by omega)]
theorem wFn_eq {f : Fn} (h : okFn f) : wFn f = encFn f := by
  obtain ⟨⟨⟨h1, h2⟩, h3⟩, _⟩ := h
  unfold wFn encFn wBs encBs
  rw [pU_nn _ ⟨h1, by omega⟩, pU_nn _ ⟨by omega, by omega⟩, encBs_eq']
theorem wMFn_eq {f : MFn} (h : okMFn f) : wMFn f = encMFn f := by
  obtain ⟨⟨⟨h1, h2⟩, ⟨h3, h3'⟩, h4⟩, _⟩ := h
  unfold wMFn encMFn wMBs encMBs
  rw [pU_nn _ ⟨h1, by omega⟩, pU_nn _ ⟨h3, by omega⟩, pU_nn f.slots ⟨by omega, by omega⟩, encMBs_eq']
end Go.Proofs.Ytknpjbbkageiiaa.Cu
