/- FuGx: FuG, FuH, FuI, FuJ, FuK in one text. -/
import Derived.Test.YtchebkpcgglllaaGreatFu5
import Derived.Test.YtchebkpcgglllaaGreatFu9
import Derived.Test.YtchebkpcgglllaaGreatFuA
import Derived.Test.YtchebkpcgglllaaGreatFux
import Derived.Test.YtchebkpcgglllaaGreatInz
import Derived.Test.YtchebkpcgglllaaGreatFu3
import Derived.Test.YtchebkpcgglllaaGreatFu7
import Derived.Test.YtchebkpcgglllaaGreatFuB
import Derived.Test.YtchebkpcgglllaaGreatFuCx
namespace Go.Proofs.YtchebkpcgglllaaGreat.Cu
open Go Go.SX Go.Proofs.YtchebkpcgglllaaGreat.VT
set_option maxRecDepth 100000
set_option linter.unusedVariables false
set_option linter.unusedSimpArgs false
end Go.Proofs.YtchebkpcgglllaaGreat.Cu

namespace Go.Proofs.YtchebkpcgglllaaGreat.Cu
open Go Go.SX Go.Proofs.YtchebkpcgglllaaGreat.VT
set_option maxRecDepth 100000
set_option linter.unusedVariables false
set_option linter.unusedSimpArgs false

theorem flat_isb {α : Type} (f : α → List Int) : ∀ (l : List α), (∀ x ∈ l, isB (f x)) → isB (l.map f).flatten
  | [], _ => isB_nil
  | x :: l, h => by
    simp only [List.map_cons, List.flatten_cons]
    exact isB_app2 (h x (by simp)) (flat_isb f l fun y hy => h y (by simp [hy]))
theorem wMBs_le : ∀ (l : List MBlk), (wMBs l).length ≤ 41 * l.length + 61 * totMB l
  | [] => by simp [wMBs]
  | b :: l => by
    have h1 := wMBs_le l
    have h2 : (encMCode b.code).length ≤ 61 * b.code.length := by rw [encMCode_eq]; exact flat_le putMacB 61 b.code fun x _ => (putMacB_len x).2
    have h3 := putB_len b.code.length
    have h4 := (putTrmB_len b.term).2
    have h5 : (encMB b).length = (putB b.code.length).length + (encMCode b.code).length + (putTrmB b.term).length := by unfold encMB; simp only [List.length_append]
    unfold wMBs at *
    simp only [List.map_cons, List.flatten_cons, List.length_append, List.length_cons, totMB, Nat.mul_add]
    omega
theorem encB_isb {b : Blk} (h : ∀ i ∈ b.code, in64 i.imm) (hl : b.code.length < 18446744073709551616) : isB (encB b) := by
  unfold encB
  rw [encCode_eq]
  exact isB_app2 (isB_app2 (putB_isb _ hl) (flat_isb _ _ fun i hi => putInsB_isb i (h i hi))) (putTrmB_isb _)
theorem encMB_isb {b : MBlk} (h : ∀ i ∈ b.code, in64 i.imm) (hl : b.code.length < 18446744073709551616) : isB (encMB b) := by
  unfold encMB
  rw [encMCode_eq]
  exact isB_app2 (isB_app2 (putB_isb _ hl) (flat_isb _ _ fun i hi => putMacB_isb i (h i hi))) (putTrmB_isb _)
theorem pU_nn (n : Int) (h : 0 ≤ n ∧ n < 18446744073709551616) : pU n = putB n.toNat := by unfold pU; rw [u64_in (by omega) (by omega)]
theorem wFn_eq {f : Fn} (h : okFn f) : wFn f = encFn f := by
  obtain ⟨⟨⟨h1, h2⟩, h3⟩, _⟩ := h
  unfold wFn encFn wBs encBs
  rw [pU_nn _ ⟨h1, by omega⟩, pU_nn _ ⟨by omega, by omega⟩, encBs_eq']
theorem wMFn_eq {f : MFn} (h : okMFn f) : wMFn f = encMFn f := by
  obtain ⟨⟨⟨h1, h2⟩, ⟨h3, h3'⟩, h4⟩, _⟩ := h
  unfold wMFn encMFn wMBs encMBs
  rw [pU_nn _ ⟨h1, by omega⟩, pU_nn _ ⟨h3, by omega⟩, pU_nn f.slots ⟨by omega, by omega⟩, encMBs_eq']
end Go.Proofs.YtchebkpcgglllaaGreat.Cu

namespace Go.Proofs.YtchebkpcgglllaaGreat.Cu
open Go Go.SX Go.Proofs.YtchebkpcgglllaaGreat.VT
set_option maxRecDepth 100000
set_option linter.unusedVariables false
set_option linter.unusedSimpArgs false
theorem okMFn_isb {f : MFn} (h : okMFn f) : isB (wMBs f.blocks) := by
  obtain ⟨_, ⟨h1, h2, _⟩, h3, h4, h5, h6⟩ := (okMFn_iff f).1 h
  unfold wMBs
  refine flat_isb _ _ fun b hb => encMB_isb (fun i hi => (okMac_ok (((okMCode_iff _ _ _).1 (h6 b hb).1).1 i hi) (by omega)).2.2.2.2.1) ?_
  obtain ⟨k, hk⟩ := List.getElem?_of_mem hb
  have h7 := totMB_take f.blocks k b hk
  have h8 := totMB_le f.blocks (k + 1)
  omega
end Go.Proofs.YtchebkpcgglllaaGreat.Cu

namespace Go.Proofs.YtchebkpcgglllaaGreat.Cu
open Go Go.SX Go.Proofs.YtchebkpcgglllaaGreat.VT
set_option maxRecDepth 100000
set_option linter.unusedVariables false
set_option linter.unusedSimpArgs false
theorem okMFn_trm {f : MFn} (h : okMFn f) : trmsM f.blocks := by
  obtain ⟨_, _, _, _, _, h6⟩ := (okMFn_iff f).1 h
  intro b hb
  exact (h6 b hb).2.1
theorem okFn_n {f : Fn} (h : okFn f) : f.blocks.length ≤ 1048576 ∧ totB f.blocks ≤ 1048576 := by
  obtain ⟨_, _, _, h4, h5, _⟩ := (okFn_iff f).1 h
  exact ⟨h4, h5⟩
theorem okMFn_n {f : MFn} (h : okMFn f) : f.blocks.length ≤ 1048576 ∧ totMB f.blocks ≤ 1048576 := by
  obtain ⟨_, _, _, h4, h5, _⟩ := (okMFn_iff f).1 h
  exact ⟨h4, h5⟩
end Go.Proofs.YtchebkpcgglllaaGreat.Cu

namespace Go.Proofs.YtchebkpcgglllaaGreat.Cu
open Go Go.SX Go.Proofs.YtchebkpcgglllaaGreat.VT
set_option maxRecDepth 100000
set_option linter.unusedVariables false
set_option linter.unusedSimpArgs false
theorem okFn_isb {f : Fn} (h : okFn f) : isB (wBs f.blocks) := by
  obtain ⟨h0, h2, h3, h4, h5, h6⟩ := (okFn_iff f).1 h
  unfold wBs
  refine flat_isb _ _ fun b hb => encB_isb (fun i hi => (okIns_ok ((h6 b hb).1 i hi) (by omega)).2.2.2.2) ?_
  obtain ⟨k, hk⟩ := List.getElem?_of_mem hb
  have h7 := totB_take f.blocks k b hk
  have h8 := totB_le f.blocks (k + 1)
  omega
theorem wFn_isb {f : Fn} (h : okFn f) : isB (wFn f) := isB_app2 (isB_app2 (isB_app2 (pU_isb _) (pU_isb _)) (putB_isb _ (by have := okFn_n h; omega))) (okFn_isb h)
theorem wMFn_isb {f : MFn} (h : okMFn f) : isB (wMFn f) := isB_app2 (isB_app2 (isB_app2 (isB_app2 (pU_isb _) (pU_isb _)) (pU_isb _)) (putB_isb _ (by have := okMFn_n h; omega))) (okMFn_isb h)
theorem wMFn_le (f : MFn) : (wMFn f).length ≤ 40 + (wMBs f.blocks).length := by
  have a1 := pU_len f.args
  have a2 := pU_len f.regs
  have a3 := pU_len f.slots
  have a4 := putB_len f.blocks.length
  unfold wMFn
  simp only [List.length_append]
  omega
end Go.Proofs.YtchebkpcgglllaaGreat.Cu
