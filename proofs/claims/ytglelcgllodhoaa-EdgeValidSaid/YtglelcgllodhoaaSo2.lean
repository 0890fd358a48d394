/- Checks: the first error, functions. -/
import Derived.Test.YtglelcgllodhoaaSo1
namespace Go.Proofs.Ytglelcgllodhoaa.Cu
open Go Go.SX Go.Proofs.Ytglelcgllodhoaa.VT
set_option maxRecDepth 100000
set_option linter.unusedVariables false
set_option linter.unusedSimpArgs false
/-- The first error among n. -/
def firstN (e : Nat → Int) : Nat → Int
  | 0 => 0
  | n + 1 => if firstN e n ≠ 0 then firstN e n else e n
theorem firstN_zero (e : Nat → Int) : ∀ n, (∀ j, j < n → e j = 0) → firstN e n = 0
  | 0, _ => rfl
  | n + 1, h => by
    have h1 := firstN_zero e n fun j hj => h j (by omega)
    unfold firstN
    rw [h1, if_neg (by simp)]
    exact h n (by omega)
theorem firstN_at (e : Nat → Int) (k : Nat) (hk : e k ≠ 0) (h0 : ∀ j, j < k → e j = 0) : ∀ n, k < n → firstN e n = e k
  | 0, h => by omega
  | n + 1, h => by
    unfold firstN
    by_cases hkn : k = n
    · subst hkn
      rw [firstN_zero e k h0, if_neg (by simp)]
    · have h1 := firstN_at e k hk h0 n (by omega)
      rw [h1, if_pos hk]
theorem firstN_iff (e : Nat → Int) : ∀ n, firstN e n = 0 ↔ ∀ j, j < n → e j = 0
  | 0 => by simp [firstN]
  | n + 1 => by
    have ih := firstN_iff e n
    unfold firstN
    constructor
    · intro h j hj
      by_cases h0 : firstN e n = 0
      · rw [if_neg (by simp [h0])] at h
        by_cases hjn : j = n
        · rw [hjn]; exact h
        · exact ih.1 h0 j (by omega)
      · rw [if_pos h0] at h
        exact absurd h h0
    · intro h
      have h1 := ih.2 fun j hj => h j (by omega)
      rw [h1, if_neg (by simp)]
      exact h n (by omega)
def eAt {α : Type} (e : α → Int) (l : List α) (k : Nat) : Int := match l[k]? with
  | some x => e x
  | none => 0
theorem eAt_is {α : Type} {e : α → Int} {l : List α} {k : Nat} {x : α} (h : l[k]? = some x) : eAt e l k = e x := by unfold eAt; rw [h]
def first0 {α : Type} (e : α → Int) (l : List α) : Int := firstN (eAt e l) l.length
theorem first0_iff {α : Type} (e : α → Int) (l : List α) : first0 e l = 0 ↔ ∀ x ∈ l, e x = 0 := by
  unfold first0
  rw [firstN_iff]
  constructor
  · intro h x hx
    obtain ⟨k, hk⟩ := List.getElem?_of_mem hx
    rw [← eAt_is (e := e) hk]
    exact h k (List.getElem?_eq_some_iff.1 hk).1
  · intro h j hj
    rw [eAt_is (e := e) (List.getElem?_eq_getElem hj)]
    exact h _ (List.getElem_mem hj)
/-- A machine's instruction: its error. -/
def Mac.ins' (m : Mac) : Ins := ⟨m.op, m.d, m.a, m.b, m.imm⟩
def eMac (regs slots : Int) (i : Mac) : Int :=
  if known i.op ∧ i.op ≠ 2 then
    (if i.op = 18 then (if inRange i.dst regs slots ∧ inRange i.src regs slots ∧ ¬ (i.dst % 2 = 1 ∧ i.src % 2 = 1) then (if i.d = 0 ∧ i.a = 0 ∧ i.b = 0 ∧ i.imm = 0 then 0 else 12) else 10)
     else if eIns regs i.ins' ≠ 0 then eIns regs i.ins' else if i.dst = 0 ∧ i.src = 0 then 0 else 12)
  else 8
/-- The error at an instruction of a block. -/
def eMAt (regs slots : Int) (l : List Mac) (k : Nat) : Int := if eAt (eMac regs slots) l k ≠ 0 then eAt (eMac regs slots) l k else if runK l (k + 1) > 64 then 15 else 0
def eMBlk (regs slots n : Int) (b : MBlk) : Int := if firstN (eMAt regs slots b.code) b.code.length ≠ 0 then firstN (eMAt regs slots b.code) b.code.length else eTrm regs n b.term
def eMFn (f : MFn) : Int :=
  if f.args < 0 ∨ f.args > f.slots then 10 else if f.regs < 0 then 9 else if f.slots > 1048576 ∨ f.regs > 1048576 then 6 else if f.blocks.length = 0 then 14
  else if f.blocks.length > 1048576 ∨ totMB f.blocks > 1048576 then 6 else first0 (eMBlk f.regs f.slots f.blocks.length) f.blocks
def eBlk (regs n : Int) (b : Blk) : Int := if first0 (eIns regs) b.code ≠ 0 then first0 (eIns regs) b.code else eTrm regs n b.term
def eFn (f : Fn) : Int :=
  if f.args < 0 ∨ f.args > f.regs then 9 else if f.regs > 1048576 then 6 else if f.blocks.length = 0 then 14
  else if f.blocks.length > 1048576 ∨ totB f.blocks > 1048576 then 6 else first0 (eBlk f.regs f.blocks.length) f.blocks
end Go.Proofs.Ytglelcgllodhoaa.Cu
