/- Invariants: what is written. -/
import Derived.Test.YtglelcgllodhoaaWi3
namespace Go.Proofs.Ytglelcgllodhoaa.Cu
open Go Go.SX Go.Proofs.Ytglelcgllodhoaa.VT
set_option maxRecDepth 100000
set_option linter.unusedVariables false
set_option linter.unusedSimpArgs false

def encI : List (List Pr) → List Int
  | [] => []
  | x :: xs => (putB x.length ++ encPrs x) ++ encI xs
theorem encI_eq : ∀ (t : Int) (l : List (List Pr)), encL encBlk nxT t l = encI l
  | t, [] => rfl
  | t, x :: xs => by simp only [encL, encI, encBlk]; rw [encI_eq]
theorem encI_take : ∀ (l : List (List Pr)) (k : Nat) (x : List Pr), l[k]? = some x → encI (l.take (k + 1)) = encI (l.take k) ++ (putB x.length ++ encPrs x)
  | [], k, x, h => by simp at h
  | y :: l, 0, x, h => by simp at h; subst h; simp [encI]
  | y :: l, k + 1, x, h => by
    have := encI_take l k x (by simpa using h)
    simp only [List.take_succ_cons, encI, this, List.append_assoc]
theorem encL_snoc {σ α : Type} {enc : σ → α → List Int} {nx : σ → α → σ} : ∀ (s : σ) (l : List α) (x : α), encL enc nx s (l ++ [x]) = encL enc nx s l ++ enc (foldS nx s l) x
  | s, [], x => by simp [encL, foldS]
  | s, y :: l, x => by simp only [List.cons_append, encL, foldS]; rw [encL_snoc]; simp
/-- The state after k pairs. -/
def stK (ps : List Pr) (k : Nat) : PS := if k = 0 then ps0 else (false, ps.getD (k - 1) pr0)
theorem foldS_take : ∀ (ps : List Pr) (s : PS) (k : Nat), k ≤ ps.length → foldS nxP s (ps.take k) = if k = 0 then s else (false, ps.getD (k - 1) pr0)
  | ps, s, 0, _ => by simp [foldS]
  | [], s, k + 1, h => by simp at h
  | p :: ps, s, 1, h => by simp [foldS, nxP]
  | p :: ps, s, k + 2, h => by
    have := foldS_take ps (nxP s p) (k + 1) (by simpa using h)
    rw [List.take_succ_cons, foldS, this]
    simp
theorem encPrs_take (ps : List Pr) (k : Nat) (x : Pr) (h : ps[k]? = some x) : encPrs (ps.take (k + 1)) = encPrs (ps.take k) ++ encPr (stK ps k) x := by
  have hk : k < ps.length := (List.getElem?_eq_some_iff.1 h).1
  unfold encPrs
  rw [List.take_add_one, h]
  show encL encPr nxP ps0 (ps.take k ++ [x]) = _
  rw [encL_snoc, foldS_take _ _ _ (by omega)]
  rfl
theorem encPr_le (s : PS) (x : Pr) : (encPr s x).length ≤ 20 := by
  have h1 := pU_len (x.v - s.2.v)
  have h2 := pU_len x.l
  have h3 := pU_len (x.l - s.2.l - 1)
  unfold encPr
  split <;> simp only [List.length_append] <;> omega
theorem encL_le {σ α : Type} {enc : σ → α → List Int} {nx : σ → α → σ} (b : Nat) (h : ∀ s x, (enc s x).length ≤ b) : ∀ s l, (encL enc nx s l).length ≤ b * l.length
  | s, [] => by simp [encL]
  | s, x :: xs => by
    have h1 := encL_le (nx := nx) b h (nx s x) xs
    have h2 := h s x
    simp only [encL, List.length_append, List.length_cons, Nat.mul_add]
    omega
theorem encPrs_le (ps : List Pr) : (encPrs ps).length ≤ 20 * ps.length := encL_le 20 encPr_le _ _
theorem encI_le (b : Nat) : ∀ (l : List (List Pr)), (∀ x ∈ l, x.length ≤ b) → (encI l).length ≤ (10 + 20 * b) * l.length
  | [], _ => by simp [encI]
  | x :: xs, h => by
    have h1 := encI_le b xs (fun y hy => h y (by simp [hy]))
    have h2 := encPrs_le x
    have h3 := h x (by simp)
    have h4 := putB_len x.length
    simp only [encI, List.length_append, List.length_cons, Nat.mul_add]
    omega
theorem kPrs_R {G : Gh} {l : List Pr} {cs : List Value} (h : kPrs.R G l cs) : ∃ A c, cs = [.slice A l.length c] ∧ kPr.S G A c l := h
theorem stK_next (ps : List Pr) (j : Nat) (p : Pr) (h : ps[j]? = some p) : stK ps (j + 1) = (false, p) := by
  unfold stK
  rw [if_neg (by omega), List.getD_eq_getElem?_getD, Nat.add_sub_cancel, h]
  rfl
theorem stK_first (ps : List Pr) (j : Nat) : (stK ps j).1 = true ↔ j = 0 := by
  unfold stK
  split
  · simp [ps0, *]
  · simp [*]
theorem wrap_sub2 (a b : Int) : IntKind.u64.wrap (IntKind.i64.wrap (IntKind.i64.wrap (a - b) - 1)) = IntKind.u64.wrap (a - b - 1) := by rw [IntKind.wrap_i64, IntKind.wrap_i64, IntKind.wrap_u64, IntKind.wrap_u64]; omega
theorem wrap_sub (a b : Int) : IntKind.u64.wrap (IntKind.i64.wrap (a - b)) = IntKind.u64.wrap (a - b) := by rw [IntKind.wrap_i64, IntKind.wrap_u64, IntKind.wrap_u64]; omega
end Go.Proofs.Ytglelcgllodhoaa.Cu
