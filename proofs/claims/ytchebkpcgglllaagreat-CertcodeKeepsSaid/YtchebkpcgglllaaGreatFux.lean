/- Fux: Fu8, Fuw in one text. -/
import Derived.Test.YtchebkpcgglllaaGreatFu2
import Derived.Test.YtchebkpcgglllaaGreatInz
import Derived.Test.YtchebkpcgglllaaGreatFu3
namespace Go.Proofs.YtchebkpcgglllaaGreat.Cu
open Go Go.SX Go.Proofs.YtchebkpcgglllaaGreat.VT
set_option maxRecDepth 100000
set_option linter.unusedVariables false
set_option linter.unusedSimpArgs false

theorem okCode_iff (regs : Int) : ∀ (l : List Ins), okCode regs l ↔ ∀ i ∈ l, okIns regs i
  | [] => by simp [okCode, okL]
  | i :: l => by
    have := okCode_iff regs l
    unfold okCode at this ⊢
    simp only [okL, List.mem_cons, forall_eq_or_imp]
    rw [show okL (fun _ => okIns regs) nxU (nxU () i) l ↔ ∀ i ∈ l, okIns regs i from this]
theorem okBs_iff (regs n : Int) : ∀ (l : List Blk) (t : Int), 0 ≤ t → (okL (okB regs n) nxB t l ↔ ((l = [] ∨ t + totB l ≤ 1048576) ∧ ∀ b ∈ l, okCode regs b.code ∧ okTrm regs n b.term))
  | [], t, _ => by simp [okL]
  | x :: l, t, ht => by
    have h := okBs_iff regs n l (nxB t x) (by unfold nxB; omega)
    simp only [okL, totB]
    rw [h]
    unfold okB nxB
    constructor
    · rintro ⟨⟨h1, h2, h2'⟩, h3, h4⟩
      refine ⟨.inr ?_, ?_⟩
      · rcases h3 with rfl | h3
        · simp [totB]; omega
        · push_cast; omega
      · intro y hy
        rcases List.mem_cons.1 hy with rfl | hy
        · exact ⟨h2, h2'⟩
        · exact h4 y hy
    · rintro ⟨h1, h2⟩
      have h1' : t + ((x.code.length + totB l : Nat) : Int) ≤ 1048576 := by
        rcases h1 with h1 | h1
        · simp at h1
        · exact h1
      have h3 := h2 x (by simp)
      exact ⟨⟨by omega, h3.1, h3.2⟩, .inr (by omega), fun y hy => h2 y (by simp [hy])⟩
theorem okFn_iff (f : Fn) : okFn f ↔ (0 ≤ f.args ∧ f.args ≤ f.regs) ∧ f.regs ≤ 1048576 ∧ f.blocks.length ≠ 0 ∧ f.blocks.length ≤ 1048576 ∧ totB f.blocks ≤ 1048576 ∧ ∀ b ∈ f.blocks, (∀ i ∈ b.code, okIns f.regs i) ∧ okTrm f.regs f.blocks.length b.term := by
  unfold okFn
  rw [okBs_iff _ _ _ 0 (Int.le_refl _)]
  constructor
  · rintro ⟨⟨h1, h2⟩, ⟨h3, h4⟩, h5, h6⟩
    refine ⟨h1, h2, h3, h4, ?_, fun b hb => ⟨(okCode_iff _ _).1 (h6 b hb).1, (h6 b hb).2⟩⟩
    rcases h5 with h5 | h5
    · rw [h5] at h3; exact absurd rfl h3
    · omega
  · rintro ⟨h1, h2, h3, h4, h5, h6⟩
    exact ⟨⟨h1, h2⟩, ⟨h3, h4⟩, .inr (by omega), fun b hb => ⟨(okCode_iff _ _).2 (h6 b hb).1, (h6 b hb).2⟩⟩
end Go.Proofs.YtchebkpcgglllaaGreat.Cu

namespace Go.Proofs.YtchebkpcgglllaaGreat.Cu
open Go Go.SX Go.Proofs.YtchebkpcgglllaaGreat.VT
set_option maxRecDepth 100000
set_option linter.unusedVariables false
set_option linter.unusedSimpArgs false
theorem flat_le {α : Type} (f : α → List Int) (b : Nat) : ∀ (l : List α), (∀ x ∈ l, (f x).length ≤ b) → ((l.map f).flatten).length ≤ b * l.length
  | [], _ => by simp
  | x :: l, h => by
    have h1 := flat_le f b l fun y hy => h y (by simp [hy])
    have h2 := h x (by simp)
    simp only [List.map_cons, List.flatten_cons, List.length_append, List.length_cons, Nat.mul_add]
    omega
theorem wBs_le : ∀ (l : List Blk), (wBs l).length ≤ 41 * l.length + 41 * totB l
  | [] => by simp [wBs]
  | b :: l => by
    have h1 := wBs_le l
    have h2 : (encCode b.code).length ≤ 41 * b.code.length := by rw [encCode_eq]; exact flat_le putInsB 41 b.code fun x _ => (putInsB_len x).2
    have h3 := putB_len b.code.length
    have h4 := (putTrmB_len b.term).2
    have h5 : (encB b).length = (putB b.code.length).length + (encCode b.code).length + (putTrmB b.term).length := by unfold encB; simp only [List.length_append]
    unfold wBs at *
    simp only [List.map_cons, List.flatten_cons, List.length_append, List.length_cons, totB, Nat.mul_add]
    omega
theorem okFn_ops {f : Fn} (h : okFn f) : opsB f.blocks := by
  obtain ⟨_, _, _, _, _, h6⟩ := (okFn_iff f).1 h
  intro b hb i hi
  exact ((h6 b hb).1 i hi).1.2
theorem okFn_trm {f : Fn} (h : okFn f) : trmsB f.blocks := by
  obtain ⟨_, _, _, _, _, h6⟩ := (okFn_iff f).1 h
  intro b hb
  exact (h6 b hb).2.1
theorem wFn_le (f : Fn) : (wFn f).length ≤ 40 + (wBs f.blocks).length := by
  have a1 := pU_len f.args
  have a2 := pU_len f.regs
  have a4 := putB_len f.blocks.length
  unfold wFn
  simp only [List.length_append]
  omega
end Go.Proofs.YtchebkpcgglllaaGreat.Cu
