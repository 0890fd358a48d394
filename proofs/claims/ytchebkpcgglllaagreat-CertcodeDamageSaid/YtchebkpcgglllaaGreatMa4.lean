/- Machines: the reference's check of a function. -/
import Derived.Test.YtchebkpcgglllaaGreatMax
namespace Go.Proofs.YtchebkpcgglllaaGreat.Cu
open Go Go.SX Go.Proofs.YtchebkpcgglllaaGreat.VT
set_option maxRecDepth 100000
set_option linter.unusedVariables false
set_option linter.unusedSimpArgs false
theorem eMAt_of {regs slots : Int} {l : List Mac} {j : Nat} {i : Mac} (h : l[j]? = some i) : eMAt regs slots l j = if eMac regs slots i ≠ 0 then eMac regs slots i else if runK l (j + 1) > 64 then 15 else 0 := by
  unfold eMAt
  rw [eAt_is h]
theorem eMBlk_code {regs slots n : Int} {b : MBlk} {j : Nat} (hj : j < b.code.length) (h0 : ∀ i, i < j → eMAt regs slots b.code i = 0) (h1 : eMAt regs slots b.code j ≠ 0) : eMBlk regs slots n b = eMAt regs slots b.code j := by
  unfold eMBlk
  rw [firstN_at _ j h1 h0 _ hj, if_pos h1]
theorem eMBlk_term {regs slots n : Int} {b : MBlk} (h0 : ∀ i, i < b.code.length → eMAt regs slots b.code i = 0) : eMBlk regs slots n b = eTrm regs n b.term := by
  unfold eMBlk
  rw [firstN_zero _ _ h0, if_neg (by simp)]
def MBase (f : MFn) : Prop := (0 ≤ f.args ∧ f.args ≤ f.slots) ∧ (0 ≤ f.regs ∧ f.regs ≤ 1048576 ∧ f.slots ≤ 1048576) ∧ f.blocks.length ≠ 0 ∧ f.blocks.length ≤ 1048576 ∧ totMB f.blocks ≤ 1048576
theorem eMFn_base {f : MFn} (h : MBase f) : eMFn f = first0 (eMBlk f.regs f.slots f.blocks.length) f.blocks := by
  obtain ⟨h1, h2, h3, h4, h5⟩ := h
  unfold eMFn
  rw [if_neg (by omega), if_neg (by omega), if_neg (by omega), if_neg h3, if_neg (by omega)]
theorem eMFn_at {f : MFn} (h : MBase f) {k : Nat} {b : MBlk} (hb : f.blocks[k]? = some b) (h0 : ∀ j, j < k → eAt (eMBlk f.regs f.slots f.blocks.length) f.blocks j = 0) (h1 : eMBlk f.regs f.slots f.blocks.length b ≠ 0) : eMFn f = eMBlk f.regs f.slots f.blocks.length b := by
  rw [eMFn_base h]
  unfold first0
  rw [firstN_at _ k (by rw [eAt_is hb]; exact h1) h0 _ (List.getElem?_eq_some_iff.1 hb).1, eAt_is hb]
theorem eMFn_zero {f : MFn} (h : MBase f) (h0 : ∀ j, j < f.blocks.length → eAt (eMBlk f.regs f.slots f.blocks.length) f.blocks j = 0) : eMFn f = 0 := by
  rw [eMFn_base h]
  exact firstN_zero _ _ h0
theorem eAt_next {α : Type} {e : α → Int} {l : List α} {k : Nat} {x : α} (hx : l[k]? = some x) (h0 : ∀ j, j < k → eAt e l j = 0) (h : e x = 0) : ∀ j, j < k + 1 → eAt e l j = 0 := by
  intro j hj
  rcases Nat.lt_or_ge j k with h1 | h1
  · exact h0 j h1
  · have : j = k := by omega
    subst this
    rw [eAt_is hx]; exact h
theorem eMAt_next {regs slots : Int} {l : List Mac} {k : Nat} (h0 : ∀ j, j < k → eMAt regs slots l j = 0) (h : eMAt regs slots l k = 0) : ∀ j, j < k + 1 → eMAt regs slots l j = 0 := by
  intro j hj
  rcases Nat.lt_or_ge j k with h1 | h1
  · exact h0 j h1
  · have : j = k := by omega
    subst this; exact h
end Go.Proofs.YtchebkpcgglllaaGreat.Cu
