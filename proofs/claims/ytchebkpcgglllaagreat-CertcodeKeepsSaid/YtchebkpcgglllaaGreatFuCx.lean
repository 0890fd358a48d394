/- FuCx: FuC, FuE, FuF in one text. -/
import Derived.Test.YtchebkpcgglllaaGreatFuA
import Derived.Test.YtchebkpcgglllaaGreatSXc
import Derived.Test.YtchebkpcgglllaaGreatFux
namespace Go.Proofs.YtchebkpcgglllaaGreat.Cu
open Go Go.SX Go.Proofs.YtchebkpcgglllaaGreat.VT
set_option maxRecDepth 100000
set_option linter.unusedVariables false
set_option linter.unusedSimpArgs false

theorem okMCode_ix (regs slots : Int) : ∀ (l : List Mac) (s : Int), okL (okMacR regs slots) nxR s l ↔ (∀ i ∈ l, okMac regs slots i) ∧ ∀ k, k ≤ l.length → 0 < k → foldS nxR s (l.take k) ≤ 64
  | [], s => by
    simp only [okL, true_iff]
    exact ⟨fun i hi => by simp at hi, fun k h1 h2 => by simp at h1; omega⟩
  | x :: l, s => by
    simp only [okL]
    rw [okMCode_ix regs slots l (nxR s x)]
    unfold okMacR
    constructor
    · rintro ⟨⟨h1, h2⟩, h3, h4⟩
      refine ⟨fun i hi => ?_, fun k hk hk0 => ?_⟩
      · rcases List.mem_cons.1 hi with rfl | hi
        · exact h1
        · exact h3 i hi
      · obtain ⟨k', rfl⟩ : ∃ k', k = k' + 1 := ⟨k - 1, by omega⟩
        rw [List.take_succ_cons, foldS]
        by_cases h0 : k' = 0
        · subst h0; simpa [foldS] using h2
        · exact h4 k' (by simpa using hk) (by omega)
    · rintro ⟨h1, h2⟩
      refine ⟨⟨h1 x (by simp), by simpa [foldS] using h2 1 (by simp) (by omega)⟩, fun i hi => h1 i (by simp [hi]), fun k hk hk0 => ?_⟩
      have := h2 (k + 1) (by simpa using hk) (by omega)
      rwa [List.take_succ_cons, foldS] at this
/-- Code that may be written: each instruction, and no 65 moves in a row. -/
theorem okMCode_iff (regs slots : Int) (l : List Mac) : okMCode regs slots l ↔ (∀ i ∈ l, okMac regs slots i) ∧ ∀ k, 64 ≤ k → k < l.length → ¬ ∀ i x, k - 64 ≤ i → i ≤ k → l[i]? = some x → x.op = 18 := by
  unfold okMCode
  rw [okMCode_ix]
  refine and_congr Iff.rfl ?_
  constructor
  · intro h k h1 h2 h3
    have h4 := h (k + 1) (by omega) (by omega)
    have h5 := (runK_iff l (k + 1) 65 (by omega) (by omega)).2 fun i x h6 h7 hx => h3 i x (by omega) (by omega) hx
    unfold runK at h5
    omega
  · intro h k h1 h2
    rcases Int.lt_or_le 64 (foldS nxR 0 (l.take k)) with h3 | h3
    rotate_left
    · exact h3
    · exfalso
      have hle : runK l k ≤ k := by
        have h9 : ∀ k, runK l k ≤ k := by
          intro k
          induction k with
          | zero => simp [runK, foldS]
          | succ k ih =>
            cases hx : l[k]? with
            | none =>
              have e : l.take (k + 1) = l.take k := by rw [List.take_add_one, hx]; simp
              unfold runK at *
              rw [e]; omega
            | some x =>
              rw [runK_next l k x hx]
              unfold nxR; split <;> omega
        exact h9 k
      have h65 : 65 ≤ k := by unfold runK at hle; omega
      have h5 := (runK_iff l k 65 h1 h65).1 (by unfold runK; omega)
      refine h (k - 1) (by omega) (by omega) fun i x h6 h7 hx => h5 i x (by omega) (by omega) hx
end Go.Proofs.YtchebkpcgglllaaGreat.Cu

namespace Go.Proofs.YtchebkpcgglllaaGreat.Cu
open Go Go.SX Go.Proofs.YtchebkpcgglllaaGreat.VT
set_option maxRecDepth 100000
set_option linter.unusedVariables false
set_option linter.unusedSimpArgs false
end Go.Proofs.YtchebkpcgglllaaGreat.Cu

namespace Go.Proofs.YtchebkpcgglllaaGreat.Cu
open Go Go.SX Go.Proofs.YtchebkpcgglllaaGreat.VT
set_option maxRecDepth 100000
set_option linter.unusedVariables false
set_option linter.unusedSimpArgs false

theorem okMBs_iff (regs slots n : Int) : ∀ (l : List MBlk) (t : Int), 0 ≤ t → (okL (okMB regs slots n) nxMB t l ↔ ((l = [] ∨ t + totMB l ≤ 1048576) ∧ ∀ b ∈ l, okMCode regs slots b.code ∧ okTrm regs n b.term))
  | [], t, _ => by simp [okL]
  | x :: l, t, ht => by
    have h := okMBs_iff regs slots n l (nxMB t x) (by unfold nxMB; omega)
    simp only [okL, totMB]
    rw [h]
    unfold okMB nxMB
    constructor
    · rintro ⟨⟨h1, h2, h2'⟩, h3, h4⟩
      refine ⟨.inr ?_, ?_⟩
      · rcases h3 with rfl | h3
        · simp [totMB]; omega
        · push_cast; omega
      · intro y hy
        rcases List.mem_cons.1 hy with rfl | hy
        · exact ⟨h2, h2'⟩
        · exact h4 y hy
    · rintro ⟨h1, h2⟩
      have h1' : t + ((x.code.length + totMB l : Nat) : Int) ≤ 1048576 := by
        rcases h1 with h1 | h1
        · simp at h1
        · exact h1
      have h3 := h2 x (by simp)
      exact ⟨⟨by omega, h3.1, h3.2⟩, .inr (by omega), fun y hy => h2 y (by simp [hy])⟩
theorem okMFn_iff (f : MFn) : okMFn f ↔ (0 ≤ f.args ∧ f.args ≤ f.slots) ∧ (0 ≤ f.regs ∧ f.regs ≤ 1048576 ∧ f.slots ≤ 1048576) ∧ f.blocks.length ≠ 0 ∧ f.blocks.length ≤ 1048576 ∧ totMB f.blocks ≤ 1048576 ∧ ∀ b ∈ f.blocks, okMCode f.regs f.slots b.code ∧ okTrm f.regs f.blocks.length b.term := by
  unfold okMFn
  rw [okMBs_iff _ _ _ _ 0 (Int.le_refl _)]
  constructor
  · rintro ⟨⟨h1, ⟨h2, h2'⟩, h2''⟩, ⟨h3, h4⟩, h5, h6⟩
    refine ⟨h1, ⟨h2, h2', h2''⟩, h3, h4, ?_, h6⟩
    rcases h5 with h5 | h5
    · rw [h5] at h3; exact absurd rfl h3
    · omega
  · rintro ⟨h1, ⟨h2, h2', h2''⟩, h3, h4, h5, h6⟩
    exact ⟨⟨h1, ⟨h2, h2'⟩, h2''⟩, ⟨h3, h4⟩, .inr (by omega), h6⟩
end Go.Proofs.YtchebkpcgglllaaGreat.Cu
