/- Functions: what is written. -/
import Derived.Test.YtkhajngpcgmpnaaFu1
import Derived.Test.YtkhajngpcgmpnaaOpx
import Derived.Test.YtkhajngpcgmpnaaSXg
namespace Go.Proofs.Ytkhajngpcgmpnaa.Cu
open Go Go.SX Go.Proofs.Ytkhajngpcgmpnaa.VT
set_option maxRecDepth 100000
set_option linter.unusedVariables false
set_option linter.unusedSimpArgs false

/-! ### prefixes -/
def encCs (l : List Ins) : List Int := (l.map putInsB).flatten
theorem encCode_eq : ∀ (l : List Ins), encCode l = (l.map putInsB).flatten
  | [] => rfl
  | i :: l => by
    have := encCode_eq l
    unfold encCode at this ⊢
    simp only [encL, List.map_cons, List.flatten_cons]
    rw [← this]
theorem encMCode_eq' : ∀ (l : List Mac) (s : Int), encL (fun _ => putMacB) nxR s l = (l.map putMacB).flatten
  | [], s => rfl
  | i :: l, s => by
    simp only [encL, List.map_cons, List.flatten_cons]
    rw [encMCode_eq' l]
theorem encMCode_eq (l : List Mac) : encMCode l = (l.map putMacB).flatten := encMCode_eq' l 0
theorem encBs_eq' : ∀ (l : List Blk) (s : Int), encL (fun _ => encB) nxB s l = (l.map encB).flatten
  | [], s => rfl
  | i :: l, s => by
    simp only [encL, List.map_cons, List.flatten_cons]
    rw [encBs_eq' l]
theorem encMBs_eq' : ∀ (l : List MBlk) (s : Int), encL (fun _ => encMB) nxMB s l = (l.map encMB).flatten
  | [], s => rfl
  | i :: l, s => by
    simp only [encL, List.map_cons, List.flatten_cons]
    rw [encMBs_eq' l]
theorem flat_take {α : Type} (f : α → List Int) (l : List α) (k : Nat) (x : α) (h : l[k]? = some x) : ((l.take (k + 1)).map f).flatten = ((l.take k).map f).flatten ++ f x := by
  rw [List.take_add_one, h]
  simp
theorem flat_mono {α : Type} (f : α → List Int) : ∀ (l : List α) (k : Nat), ((l.take k).map f).flatten.length ≤ ((l.map f).flatten).length
  | [], k => by simp
  | x :: l, 0 => by simp
  | x :: l, k + 1 => by have := flat_mono f l k; simp only [List.take_succ_cons, List.map_cons, List.flatten_cons, List.length_append]; omega
/-- All that is written of a function, but its numbers. -/
def wBs (l : List Blk) : List Int := (l.map encB).flatten
def wMBs (l : List MBlk) : List Int := (l.map encMB).flatten
def wFn (f : Fn) : List Int := pU f.args ++ pU f.regs ++ putB f.blocks.length ++ wBs f.blocks
def wMFn (f : MFn) : List Int := pU f.args ++ pU f.regs ++ pU f.slots ++ putB f.blocks.length ++ wMBs f.blocks
/-- Terminators that may be written. -/
def trmsB (l : List Blk) : Prop := ∀ b ∈ l, 1 ≤ b.term.kind ∧ b.term.kind ≤ 3
def trmsM (l : List MBlk) : Prop := ∀ b ∈ l, 1 ≤ b.term.kind ∧ b.term.kind ≤ 3
end Go.Proofs.Ytkhajngpcgmpnaa.Cu
