/- The cost of decoding: the plain side. -/
import Derived.Test.YtkhajngpcgmpnaaFu4
import Derived.Test.YtkhajngpcgmpnaaWi1
import Derived.Test.YtkhajngpcgmpnaaSe4
namespace Go.Proofs.Ytkhajngpcgmpnaa.Cu
open Go Go.SX Go.Proofs.Ytkhajngpcgmpnaa.VT
set_option maxRecDepth 100000
set_option linter.unusedVariables false
set_option linter.unusedSimpArgs false

def addN (t n : Int) : Int := t + n
/-- A block: how many instructions it says it has, what is left. -/
def sBlkN (regs n t : Int) (p : Ps) : Int × Ps := ((cntI t p).1, (sBlkF regs n t p).2)
def sMBlkN (regs slots n t : Int) (p : Ps) : Int × Ps := ((cntI t p).1, (sMBlkF regs slots n t p).2)
def sBlkW (vregs regs slots t : Int) (p : Ps) : Int × Ps := ((cntI t p).1, (sBlk vregs regs slots t p).2)
def dBlks (regs n : Int) (p : Ps) : List Int × Ps := rep (sBlkN regs n) addN n.toNat 0 p
def dMBlks (regs slots n : Int) (p : Ps) : List Int × Ps := rep (sMBlkN regs slots n) addN n.toNat 0 p
def dInv (vregs regs slots n : Int) (p : Ps) : List Int × Ps := rep (sBlkW vregs regs slots) addN n.toNat 0 p
structure Shp where
  args : Int
  regs : Int
  slots : Int
  blocks : Int
deriving DecidableEq
def dFn (p : Ps) : (Shp × List Int) × Ps :=
  let h := sHead p
  let n := cntB h.2
  let b := dBlks h.1.2 n.1 n.2
  ((⟨h.1.1, h.1.2, 0, n.1⟩, b.1), b.2)
def dMFn (p : Ps) : (Shp × List Int) × Ps :=
  let h := sMHead p
  let n := cntB h.2
  let b := dMBlks h.1.2.1 h.1.2.2 n.1 n.2
  ((⟨h.1.1, h.1.2.1, h.1.2.2, n.1⟩, b.1), b.2)
def dStep (id : Int) (p : Ps) : List Int × Ps :=
  let b := sByte p
  let q := if b.1 ≠ id then sFail 7 b.2 else b.2
  let k := sCount 1099511627776 1 q
  sBytes k.1 k.2
def dSplit : List Int → Ps → List (List Int)
  | [], p => []
  | id :: ids, p => if (dStep id p).2.2 ≠ 0 then [] else (dStep id p).1 :: dSplit ids (dStep id p).2
structure Cst where
  blocks : Int
  instrs : Int
  pairs : Int
  bytes : Int
deriving DecidableEq
def Cst.l (x : Cst) : List Int := [x.blocks, x.instrs, x.pairs, x.bytes]
def Cst.sv (x : Cst) : SV := .agg [.v (.int .i64 x.blocks), .v (.int .i64 x.instrs), .v (.int .i64 x.pairs), .v (.int .i64 x.bytes)]
def sumI (l : List Int) : Int := l.foldl (· + ·) 0
def sumL (l : List (List Int)) : Int := sumI (l.map fun x => (x.length : Int))
def dFirst (b : List Int) : (Shp × List Int) × Ps := dFn ((splitS [1, 2, 3] (b, 0)).1.getD 0 [], 0)
def dSecond (b : List Int) : (Shp × List Int) × Ps := dMFn ((splitS [1, 2, 3] (b, 0)).1.getD 1 [], 0)
/-- The cost of what follows the header. -/
def dBody (b : List Int) : Cst :=
  if (splitR [1, 2, 3] b).2 ≠ 0 then ⟨0, 0, 0, sumL (dSplit [1, 2, 3] (b, 0))⟩
  else
    let s := dFirst b
    if (sEnd s.2).2 ≠ 0 then ⟨s.1.1.blocks, sumI s.1.2, 0, sumL (dSplit [1, 2, 3] (b, 0))⟩
    else
      let t := dSecond b
      if (sEnd t.2).2 ≠ 0 ∨ s.1.1.blocks ≠ t.1.1.blocks ∨ s.1.1.args ≠ t.1.1.args then ⟨s.1.1.blocks + t.1.1.blocks, sumI s.1.2 + sumI t.1.2, 0, sumL (dSplit [1, 2, 3] (b, 0))⟩
      else ⟨s.1.1.blocks + t.1.1.blocks, sumI s.1.2 + sumI t.1.2, sumI (dInv s.1.1.regs t.1.1.regs t.1.1.slots s.1.1.blocks ((splitS [1, 2, 3] (b, 0)).1.getD 2 [], 0)).1, sumL (dSplit [1, 2, 3] (b, 0))⟩
def dOf (b : List Int) : Cst := if b.take 3 = [82, 67, 1] then dBody (b.drop 3) else ⟨0, 0, 0, 0⟩
/-! ### a pair, as the cost's reader reads it -/
def dPr (vregs regs slots v l : Int) (p : Ps) : (Int × Int) × Ps :=
  let a := sUint maxU p
  let p1 := if a.1 ≥ vregs - v then sFail 9 a.2 else a.2
  let d := sUint maxU p1
  let l' := (if a.1 > 0 then -1 else l) + (1 + min d.1 1099511627776)
  ((if a.1 > 0 then v + min a.1 1048576 else v, l'), if l' % 2 = 0 ∧ l' / 2 ≥ regs ∨ l' % 2 = 1 ∧ l' / 2 ≥ slots then sFail 10 d.2 else d.2)
/-- The same, or both an error. -/
def Eqv (q r : Ps) : Prop := q = r ∨ (q.2 ≠ 0 ∧ r.2 ≠ 0)
theorem Eqv.zero {q r : Ps} (h : Eqv q r) (h0 : q.2 = 0) : r = q := by
  rcases h with h | h
  · exact h.symm
  · exact absurd h0 h.1
theorem Eqv.err {q r : Ps} (h : Eqv q r) (h0 : q.2 ≠ 0) : r.2 ≠ 0 := by
  rcases h with rfl | h
  · exact h0
  · exact h.2
/-- The reader's state. -/
def relP (vregs : Int) (s : PS) (v l : Int) : Prop := goodS vregs s ∧ s.2.v = v ∧ (s.1 = true → l = -1) ∧ (s.1 = false → l = s.2.l) ∧ l ≤ 3000000
theorem sFail_ne0 {why : Int} {p : Ps} (hw : why ≠ 0) : (sFail why p).2 ≠ 0 := sFail_ne hw
theorem dPr_suf (vregs regs slots v l : Int) (p : Ps) : (dPr vregs regs slots v l p).2.1 <:+ p.1 := by
  have h1 : ∀ {c : Prop} [Decidable c] (w : Int) (q : Ps), (if c then sFail w q else q).1 = q.1 := by intro c _ w q; split <;> rfl
  unfold dPr
  dsimp only
  rw [h1]
  refine (sUint_suf _ _).trans ?_
  rw [h1]
  exact sUint_suf _ _
theorem ite_ne {c : Prop} [Decidable c] {w : Int} {q : Ps} (hw : w ≠ 0) (hq : q.2 ≠ 0) : (if c then sFail w q else q).2 ≠ 0 := by
  split
  · exact sFail_ne hw
  · exact hq
theorem dPr_law {vregs regs slots v l : Int} {s : PS} {q : Ps} (hb : isB q.1) (hv : 0 ≤ vregs ∧ vregs ≤ 1048576) (hr : 0 ≤ regs ∧ regs ≤ 1048576) (hs : 0 ≤ slots ∧ slots ≤ 1048576) (h : relP vregs s v l) (h0 : q.2 = 0) :
    Eqv (dPr vregs regs slots v l q).2 (sPr vregs regs slots s q).2 ∧ ((dPr vregs regs slots v l q).2.2 = 0 → relP vregs (nxP s (sPr vregs regs slots s q).1) (dPr vregs regs slots v l q).1.1 (dPr vregs regs slots v l q).1.2) := by
  obtain ⟨⟨g1, g2, g3⟩, rfl, g4, g5, g6⟩ := h
  have hra := sUint_range (most := maxU) hb
  have hba : isB (sUint maxU q).2.1 := fun x hx => hb x ((sUint_suf _ _).subset hx)
  have key : (sPr vregs regs slots s q) = if (sDl (sDv vregs s q).2).2.2 ≠ 0 then (pr0, (sDl (sDv vregs s q).2).2) else (mkPr s (sDv vregs s q).1 (sDl (sDv vregs s q).2).1, if inRange (mkPr s (sDv vregs s q).1 (sDl (sDv vregs s q).2).1).l regs slots then (sDl (sDv vregs s q).2).2 else sFail 10 (sDl (sDv vregs s q).2).2) := rfl
  have hd : (dPr vregs regs slots s.2.v l q) = ((if (sUint maxU q).1 > 0 then s.2.v + min (sUint maxU q).1 1048576 else s.2.v, (if (sUint maxU q).1 > 0 then -1 else l) + (1 + min (sUint maxU (if (sUint maxU q).1 ≥ vregs - s.2.v then sFail 9 (sUint maxU q).2 else (sUint maxU q).2)).1 1099511627776)), if ((if (sUint maxU q).1 > 0 then -1 else l) + (1 + min (sUint maxU (if (sUint maxU q).1 ≥ vregs - s.2.v then sFail 9 (sUint maxU q).2 else (sUint maxU q).2)).1 1099511627776)) % 2 = 0 ∧ ((if (sUint maxU q).1 > 0 then -1 else l) + (1 + min (sUint maxU (if (sUint maxU q).1 ≥ vregs - s.2.v then sFail 9 (sUint maxU q).2 else (sUint maxU q).2)).1 1099511627776)) / 2 ≥ regs ∨ ((if (sUint maxU q).1 > 0 then -1 else l) + (1 + min (sUint maxU (if (sUint maxU q).1 ≥ vregs - s.2.v then sFail 9 (sUint maxU q).2 else (sUint maxU q).2)).1 1099511627776)) % 2 = 1 ∧ ((if (sUint maxU q).1 > 0 then -1 else l) + (1 + min (sUint maxU (if (sUint maxU q).1 ≥ vregs - s.2.v then sFail 9 (sUint maxU q).2 else (sUint maxU q).2)).1 1099511627776)) / 2 ≥ slots then sFail 10 (sUint maxU (if (sUint maxU q).1 ≥ vregs - s.2.v then sFail 9 (sUint maxU q).2 else (sUint maxU q).2)).2 else (sUint maxU (if (sUint maxU q).1 ≥ vregs - s.2.v then sFail 9 (sUint maxU q).2 else (sUint maxU q).2)).2) := rfl
  have hdv : sDv vregs s q = if vregs - s.2.v ≤ (sUint maxU q).1 then (0, sFail 9 (sUint maxU q).2) else sUint maxU q := rfl
  rw [hd, key, hdv]
  clear hd key hdv
  have h2 : ((sUint maxU q).2.2 ≠ 0 → (sUint maxU q).1 = 0) := sUint_err0
  generalize sUint maxU q = a at *
  obtain ⟨dv, pa⟩ := a
  dsimp only at hra hba h2 ⊢
  by_cases hc : vregs - s.2.v ≤ dv
  · -- an error
    have hc' : dv ≥ vregs - s.2.v := hc
    rw [if_pos hc]
    simp only [if_pos hc']
    have e1 : (sFail 9 pa).2 ≠ 0 := sFail_ne (by decide)
    have e2 : sUint maxU (sFail 9 pa) = (0, sFail 9 pa) := sUint_err e1
    have e3 : (sDl (sFail 9 pa)).2.2 ≠ 0 := by unfold sDl; rw [sNum_st e1]; exact e1
    rw [e2, if_pos e3]
    dsimp only
    exact ⟨.inr ⟨ite_ne (by decide) e1, e3⟩, fun hh => absurd hh (ite_ne (by decide) e1)⟩
  · have hc' : ¬ dv ≥ vregs - s.2.v := hc
    rw [if_neg hc]
    simp only [if_neg hc']
    have hdl : sDl pa = if 1099511627777 ≤ (sUint maxU pa).1 then (0, sFail 10 (sUint maxU pa).2) else sUint maxU pa := rfl
    rw [hdl]
    have hrd := sUint_range (most := maxU) hba
    have h3 : ((sUint maxU pa).2.2 ≠ 0 → (sUint maxU pa).1 = 0) := sUint_err0
    generalize sUint maxU pa = d at *
    obtain ⟨dl, pd⟩ := d
    dsimp only at hrd h3 ⊢
    have hm : min dv 1048576 = dv := Int.min_eq_left (by omega)
    rw [hm]
    by_cases he : pd.2 = 0
    · by_cases hl : 1099511627777 ≤ dl
      · rw [if_pos hl]
        have e3 : (sFail 10 pd).2 ≠ 0 := sFail_ne (by decide)
        rw [if_pos e3]
        dsimp only
        rw [Int.min_eq_right (by omega)]
        have hlo : -1 ≤ l := by rcases hs1 : s.1 with _ | _; · have := g5 hs1; omega
                                · have := g4 hs1; omega
        rw [if_pos (by split <;> omega)]
        exact ⟨.inr ⟨e3, e3⟩, fun h => absurd h e3⟩
      · rw [if_neg hl, if_neg (show ¬ pd.2 ≠ 0 by simp [he])]
        have hmk : (mkPr s dv dl).l = (if dv > 0 then -1 else l) + (1 + dl) ∧ (mkPr s dv dl).v = s.2.v + dv := by
          unfold mkPr
          dsimp only
          refine ⟨?_, rfl⟩
          rcases hs1 : s.1 with _ | _
          · have := g5 hs1
            by_cases hd0 : dv = 0
            · rw [if_neg (by simp [hd0]), if_neg (by omega)]; omega
            · rw [if_pos (.inr hd0), if_pos (by omega)]; omega
          · have := g4 hs1
            rw [if_pos (.inl rfl)]
            split <;> omega
        have hlo : -1 ≤ l := by rcases hs1 : s.1 with _ | _; · have := g5 hs1; omega
                                · have := g4 hs1; omega
        have hv' : (if dv > 0 then s.2.v + dv else s.2.v) = s.2.v + dv := by split <;> omega
        by_cases hl2 : dl ≤ 1099511627776
        · rw [Int.min_eq_left hl2, ← hmk.1, hv']
          have hl0 : 0 ≤ (mkPr s dv dl).l := by rw [hmk.1]; split <;> omega
          dsimp only
          by_cases hin : inRange (mkPr s dv dl).l regs slots
          · have hin2 := hin
            unfold inRange at hin2
            rw [if_pos hin, if_neg (by omega)]
            refine ⟨.inl rfl, fun _ => ⟨⟨by show 0 ≤ (mkPr s dv dl).v; rw [hmk.2]; omega, by show (mkPr s dv dl).v ≤ _; rw [hmk.2]; omega, hl0⟩, hmk.2, fun h => absurd (show false = true from h) (by decide), fun _ => rfl, by omega⟩⟩
          · have hin2 := hin
            unfold inRange at hin2
            rw [if_neg hin, if_pos (by omega)]
            exact ⟨.inl rfl, fun h => absurd h (sFail_ne (by decide))⟩
        · omega
    · have hl0 := h3 he
      subst hl0
      rw [if_neg (show ¬ (1099511627777 : Int) ≤ 0 by decide)]
      rw [if_pos he]
      dsimp only
      exact ⟨.inr ⟨ite_ne (by decide) he, he⟩, fun hh => absurd hh (ite_ne (by decide) he)⟩
end Go.Proofs.Ytkhajngpcgmpnaa.Cu
