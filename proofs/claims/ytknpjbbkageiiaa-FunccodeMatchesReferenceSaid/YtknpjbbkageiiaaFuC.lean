/- Functions of machines: runs of moves, the plain side. -/
import Derived.Test.YtknpjbbkageiiaaFuA
namespace Go.Proofs.Ytknpjbbkageiiaa.Cu
open Go Go.SX Go.Proofs.Ytknpjbbkageiiaa.VT
set_option maxRecDepth 100000
set_option linter.unusedVariables false
set_option linter.unusedSimpArgs false

/-- The run of moves that ends ahead of k. -/
def runK (l : List Mac) (k : Nat) : Int := foldS nxR 0 (l.take k)
theorem foldS_snoc {σ α : Type} (nx : σ → α → σ) : ∀ (l : List α) (s : σ) (x : α), foldS nx s (l ++ [x]) = nx (foldS nx s l) x
  | [], s, x => rfl
  | y :: l, s, x => foldS_snoc nx l (nx s y) x
theorem runK_next (l : List Mac) (k : Nat) (x : Mac) (h : l[k]? = some x) : runK l (k + 1) = nxR (runK l k) x := by
  unfold runK
  rw [List.take_add_one, h]
  exact foldS_snoc nxR _ 0 x
theorem runK_nonneg (l : List Mac) : ∀ k, 0 ≤ runK l k
  | 0 => by simp [runK, foldS]
  | k + 1 => by
    cases h : l[k]? with
    | none =>
      have e : l.take (k + 1) = l.take k := by rw [List.take_add_one, h]; simp
      have := runK_nonneg l k
      unfold runK at *
      rw [e]; exact this
    | some x =>
      rw [runK_next l k x h]
      exact (nxR_le' _ x (runK_nonneg l k))
where
  nxR_le' (run : Int) (i : Mac) (h : 0 ≤ run) : 0 ≤ nxR run i := by unfold nxR; split <;> omega
/-- A run is at least n exactly if the last n are moves. -/
theorem runK_iff (l : List Mac) : ∀ (k n : Nat), k ≤ l.length → n ≤ k → ((n : Int) ≤ runK l k ↔ ∀ i x, k - n ≤ i → i < k → l[i]? = some x → x.op = 18)
  | 0, n, _, hn => by
    have : n = 0 := by omega
    subst this
    constructor
    · intro _ i x h1 h2; omega
    · intro _; simp [runK, foldS]
  | k + 1, n, hk, hn => by
    obtain ⟨y, hy⟩ : ∃ y, l[k]? = some y := ⟨_, List.getElem?_eq_getElem (by omega)⟩
    rw [runK_next l k y hy]
    cases n with
    | zero =>
      constructor
      · intro _ i x h1 h2; omega
      · intro _
        have h0 := runK_nonneg l k
        unfold nxR; split <;> omega
    | succ n =>
      have ih := runK_iff l k n (by omega) (by omega)
      unfold nxR
      split
      · rename_i h18
        constructor
        · intro h i x h1 h2 hx
          rcases Nat.lt_succ_iff_lt_or_eq.1 h2 with h3 | h3
          · exact ih.1 (by omega) i x (by omega) h3 hx
          · subst h3
            rw [hy] at hx
            simp at hx; subst hx; exact h18
        · intro h
          have := ih.2 fun i x h1 h2 hx => h i x (by omega) (by omega) hx
          omega
      · rename_i h18
        constructor
        · intro h; omega
        · intro h
          exact absurd (h k y (by omega) (by omega) hy) h18
theorem okMCode_ix (regs slots : Int) : ∀ (l : List Mac) (s : Int), okL (okMacR regs slots) nxR s l ↔ (∀ i ∈ l, okMac regs slots i) ∧ ∀ k, k ≤ l.length → 0 < k → foldS nxR s (l.take k) ≤ 64
  | [], s => by
    simp only [okL, true_iff]
    exact ⟨fun i hi => by simp at hi, fun k h1 h2 => by simp at h1; omega⟩
  | x :: l, s => by
    simp only [okL]
    rw [okMCode_ix regs slots l (nxR s x)]
    unfold okMacR
    constructor
    · rintro ⟨⟨h1, h2⟩, h3, h4⟩
      refine ⟨fun i hi => ?_, fun k hk hk0 => ?_⟩
      · rcases List.mem_cons.1 hi with rfl | hi
        · exact h1
        · exact h3 i hi
      · obtain ⟨k', rfl⟩ : ∃ k', k = k' + 1 := ⟨k - 1, by omega⟩
        rw [List.take_succ_cons, foldS]
        by_cases h0 : k' = 0
        · subst h0; simpa [foldS] using h2
        · exact h4 k' (by simpa using hk) (by omega)
    · rintro ⟨h1, h2⟩
      refine ⟨⟨h1 x (by simp), by simpa [foldS] using h2 1 (by simp) (by omega)⟩, fun i hi => h1 i (by simp [hi]), fun k hk hk0 => ?_⟩
      have := h2 (k + 1) (by simpa using hk) (by omega)
      rwa [List.take_succ_cons, foldS] at this
/-- Code that may be written: each instruction, and no 65 moves in a row. -/
theorem okMCode_iff (regs slots : Int) (l : List Mac) : okMCode regs slots l ↔ (∀ i ∈ l, okMac regs slots i) ∧ ∀ k, 64 ≤ k → k < l.length → ¬ ∀ i x, k - 64 ≤ i → i ≤ k → l[i]? = some x → x.op = 18 := by
  unfold okMCode
  rw [okMCode_ix]
  refine and_congr Iff.rfl ?_
  constructor
  · intro h k h1 h2 h3
    have h4 := h (k + 1) (by omega) (by omega)
    have h5 := (runK_iff l (k + 1) 65 (by omega) (by omega)).2 fun i x h6 h7 hx => h3 i x (by omega) (by omega) hx
    unfold runK at h5
    omega
  · intro h k h1 h2
    rcases Int.lt_or_le 64 (foldS nxR 0 (l.take k)) with h3 | h3
    rotate_left
    · exact h3
    · exfalso
      have hle : runK l k ≤ k := by
        have h9 : ∀ k, runK l k ≤ k := by
          intro k
          induction k with
          | zero => simp [runK, foldS]
          | succ k ih =>
            cases hx : l[k]? with
            | none =>
              have e : l.take (k + 1) = l.take k := by rw [List.take_add_one, hx]; simp
              unfold runK at *
              rw [e]; omega
            | some x =>
              rw [runK_next l k x hx]
              unfold nxR; split <;> omega
        exact h9 k
      have h65 : 65 ≤ k := by unfold runK at hle; omega
      have h5 := (runK_iff l k 65 h1 h65).1 (by unfold runK; omega)
      refine h (k - 1) (by omega) (by omega) fun i x h6 h7 hx => h5 i x (by omega) (by omega) hx
end Go.Proofs.Ytknpjbbkageiiaa.Cu
