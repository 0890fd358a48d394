/- A function is accepted exactly if its counts are valid, all its instructions and terminators are, and no run of moves is longer than MaxMoves. No condition. -/
import Derived.RowKit
namespace Go.Proofs.Ytihnbkoeaaepiaa.LT
open Go.RowKit
def runL {α σ ρ : Type} (step : σ → α → ρ ⊕ σ) (fin : σ → ρ) : σ → List α → ρ
  | s, [] => fin s
  | s, x :: xs => match step s x with
    | .inl r => r
    | .inr s' => runL step fin s' xs
theorem runL_nil {α σ ρ : Type} (step : σ → α → ρ ⊕ σ) (fin : σ → ρ) (s : σ) : runL step fin s [] = fin s := rfl
theorem runL_inl {α σ ρ : Type} {step : σ → α → ρ ⊕ σ} {fin : σ → ρ} {s : σ} {x : α} {xs : List α} {r : ρ} (h : step s x = .inl r) : runL step fin s (x :: xs) = r := by
  simp only [runL, h]
theorem runL_inr {α σ ρ : Type} {step : σ → α → ρ ⊕ σ} {fin : σ → ρ} {s s' : σ} {x : α} {xs : List α} (h : step s x = .inr s') : runL step fin s (x :: xs) = runL step fin s' xs := by
  simp only [runL, h]
theorem drop_getD {α : Type} {xs : List α} {i : Nat} (d0 : α) (h : i < xs.length) : xs.drop i = xs.getD i d0 :: xs.drop (i + 1) := by
  rw [List.drop_eq_getElem_cons h]
  simp [List.getD_eq_getElem?_getD, List.getElem?_eq_getElem h]
theorem getD_in {α : Type} {xs : List α} {i : Nat} (d0 : α) (h : i < xs.length) : xs.getD i d0 ∈ xs := by
  rw [List.getD_eq_getElem?_getD, List.getElem?_eq_getElem h]; exact List.getElem_mem h
theorem loop_runL {α σ ρ : Type} (xs : List α) (d0 : α) (l : Nat → σ → Int → Option ρ) (step : σ → α → ρ ⊕ σ) (fin : σ → ρ) (Inv : Nat → σ → Prop) (K : Nat)
    (hs : ∀ k s i, K ≤ k → i < xs.length → Inv i s → (∃ r, step s (xs.getD i d0) = .inl r ∧ l (k + 1) s (i : Int) = some r) ∨ (∃ s', step s (xs.getD i d0) = .inr s' ∧ Inv (i + 1) s' ∧ l (k + 1) s (i : Int) = l k s' ((i + 1 : Nat) : Int)))
    (he : ∀ k s, K ≤ k → Inv xs.length s → l (k + 1) s (xs.length : Int) = some (fin s)) :
    ∀ (d i k : Nat) (s : σ), i + d = xs.length → K + d + 1 ≤ k → Inv i s → l k s (i : Int) = some (runL step fin s (xs.drop i)) := by
  intro d
  induction d with
  | zero =>
    intro i k s hi hk hI
    obtain ⟨k, rfl⟩ : ∃ m, k = m + 1 := ⟨k - 1, by omega⟩
    obtain rfl : i = xs.length := by omega
    rw [he k s (by omega) hI, List.drop_length, runL_nil]
  | succ d ih =>
    intro i k s hi hk hI
    obtain ⟨k, rfl⟩ : ∃ m, k = m + 1 := ⟨k - 1, by omega⟩
    rw [drop_getD d0 (show i < xs.length by omega)]
    rcases hs k s i (by omega) (by omega) hI with ⟨r, h1, h2⟩ | ⟨s', h1, hI', h2⟩
    · rw [h2, runL_inl h1]
    · rw [h2, runL_inr h1]
      exact ih (i + 1) k s' (by omega) (by omega) hI'
theorem loop_all {α σ ρ : Type} (xs : List α) (d0 : α) (l : Nat → σ → Int → Option ρ) (step : σ → α → ρ ⊕ σ) (fin : σ → ρ) (Inv : Nat → σ → Prop) (K : Nat)
    (hs : ∀ k s i, K ≤ k → i < xs.length → Inv i s → (∃ r, step s (xs.getD i d0) = .inl r ∧ l (k + 1) s (i : Int) = some r) ∨ (∃ s', step s (xs.getD i d0) = .inr s' ∧ Inv (i + 1) s' ∧ l (k + 1) s (i : Int) = l k s' ((i + 1 : Nat) : Int)))
    (he : ∀ k s, K ≤ k → Inv xs.length s → l (k + 1) s (xs.length : Int) = some (fin s)) (k : Nat) (s : σ) (hk : K + xs.length + 1 ≤ k) (hI : Inv 0 s) : l k s 0 = some (runL step fin s xs) := by
  have := loop_runL xs d0 l step fin Inv K hs he xs.length 0 k s (by omega) hk hI
  simpa using this
theorem loop_find {α ρ : Type} (xs : List α) (d0 : α) (l : Nat → Int → Option ρ) (step : α → Option ρ) (fin : ρ) (K : Nat)
    (hs : ∀ k i, K ≤ k → i < xs.length → (∃ r, step (xs.getD i d0) = some r ∧ l (k + 1) (i : Int) = some r) ∨ (step (xs.getD i d0) = none ∧ l (k + 1) (i : Int) = l k ((i + 1 : Nat) : Int)))
    (he : ∀ k, K ≤ k → l (k + 1) (xs.length : Int) = some fin) (k : Nat) (hk : K + xs.length + 1 ≤ k) : l k 0 = some ((xs.findSome? step).getD fin) := by
  have key : ∀ (d i k : Nat), i + d = xs.length → K + d + 1 ≤ k → l k (i : Int) = some (((xs.drop i).findSome? step).getD fin) := by
    intro d
    induction d with
    | zero =>
      intro i k hi hk
      obtain ⟨k, rfl⟩ : ∃ m, k = m + 1 := ⟨k - 1, by omega⟩
      obtain rfl : i = xs.length := by omega
      rw [he k (by omega), List.drop_length]; rfl
    | succ d ih =>
      intro i k hi hk
      obtain ⟨k, rfl⟩ : ∃ m, k = m + 1 := ⟨k - 1, by omega⟩
      rw [drop_getD d0 (show i < xs.length by omega), List.findSome?_cons]
      rcases hs k i (by omega) (by omega) with ⟨r, h1, h2⟩ | ⟨h1, h2⟩
      · rw [h2, h1]; rfl
      · rw [h2, h1]
        exact ih (i + 1) k (by omega) (by omega)
  have := key xs.length 0 k (by omega) hk
  simpa using this
theorem loop_every {α : Type} (xs : List α) (d0 : α) (l : Nat → Int → Option Bool) (good : α → Bool) (K : Nat)
    (hs : ∀ k i, K ≤ k → i < xs.length → l (k + 1) (i : Int) = if good (xs.getD i d0) = true then l k ((i + 1 : Nat) : Int) else some false)
    (he : ∀ k, K ≤ k → l (k + 1) (xs.length : Int) = some true) (k : Nat) (hk : K + xs.length + 1 ≤ k) : l k 0 = some (xs.all good) := by
  have h := loop_find xs d0 l (fun x => if good x = true then none else some false) true K (fun k i hk hi => by
    by_cases hg : good (xs.getD i d0) = true
    · exact .inr ⟨if_pos hg, by rw [hs k i hk hi, if_pos hg]⟩
    · exact .inl ⟨false, if_neg hg, by rw [hs k i hk hi, if_neg hg]⟩) he k hk
  rw [h]
  congr 1
  induction xs with
  | nil => rfl
  | cons x xs ih =>
    clear h hs he ih hk
    induction (x :: xs) with
    | nil => rfl
    | cons y ys ih2 =>
      rw [List.findSome?_cons, List.all_cons]
      by_cases hg : good y = true
      · rw [if_pos hg, hg, Bool.true_and]; exact ih2
      · rw [if_neg hg, Bool.eq_false_iff.2 hg, Bool.false_and]; rfl
theorem w64 (n : Int) (h0 : -9223372036854775808 ≤ n) (h1 : n ≤ 9223372036854775807) : wrap64 n = n := by unfold wrap64; omega
end Go.Proofs.Ytihnbkoeaaepiaa.LT
