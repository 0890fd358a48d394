/- The cost of decoding: the reference. -/
import Derived.Test.YtkhajngpcgmpnaaDc7
namespace Go.Proofs.Ytkhajngpcgmpnaa.Cu
open Go Go.SX Go.Proofs.Ytkhajngpcgmpnaa.VT
set_option maxRecDepth 100000
set_option linter.unusedVariables false
set_option linter.unusedSimpArgs false

/-- Two readers that leave the same. -/
theorem rep_same {σ α β : Type} {f : σ → Ps → α × Ps} {g : σ → Ps → β × Ps} {nf : σ → α → σ} {ng : σ → β → σ} (good : σ → Ps → Prop) (h : ∀ s p, good s p → (f s p).2 = (g s p).2 ∧ ((f s p).2.2 = 0 → nf s (f s p).1 = ng s (g s p).1 ∧ good (nf s (f s p).1) (f s p).2)) :
    ∀ n s p, good s p → (rep f nf n s p).2 = (rep g ng n s p).2
  | 0, s, p, _ => rfl
  | n + 1, s, p, hg => by
    by_cases hp : p.2 = 0
    · rw [rep_step hp, rep_step hp]
      dsimp only
      obtain ⟨h1, h2⟩ := h s p hg
      by_cases he : (f s p).2.2 = 0
      · obtain ⟨h3, h4⟩ := h2 he
        rw [rep_same good h n _ _ h4, h3, h1]
      · rw [rep_err he, rep_err (by rw [← h1]; exact he)]
        exact h1
    · rw [rep_err hp, rep_err hp]
theorem dBlks_same {regs n : Int} {p : Ps} (hb : isB p.1) (hr : regs ≤ 1048576) (hn : n ≤ 1048576) : (dBlks regs n p).2 = (sBlks regs n p).2 := by
  refine rep_same (f := sBlkN regs n) (g := sBlkF regs n) (nf := addN) (ng := nxB) (fun t p => isB p.1 ∧ 0 ≤ t) (fun t p hg => ⟨rfl, fun h0 => ?_⟩) n.toNat 0 p ⟨hb, Int.le_refl 0⟩
  have h0' : (sBlkF regs n t p).2.2 = 0 := h0
  have hc := cntI_lin (t := t) hg.1
  have hcode : (sCode regs (cntI t p).1 (cntI t p).2).2.2 = 0 := Classical.byContradiction fun h9 => by
    have h1 : (sTrm regs n (sCode regs (cntI t p).1 (cntI t p).2).2).2.2 = 0 := h0'
    rw [sTrm_st h9 (by omega) (by omega)] at h1
    exact h9 h1
  have hlen : (sCode regs (cntI t p).1 (cntI t p).2).1.length = (cntI t p).1.toNat := rep_full _ _ _ hcode
  refine ⟨?_, isB_sub hg.1 (sBlkF_suf regs n t p), ?_⟩
  · show t + (cntI t p).1 = t + ((sCode regs (cntI t p).1 (cntI t p).2).1.length : Int)
    omega
  · show 0 ≤ t + (cntI t p).1
    have := hg.2
    omega
theorem dMBlks_same {regs slots n : Int} {p : Ps} (hb : isB p.1) (hr : regs ≤ 1048576) (hn : n ≤ 1048576) : (dMBlks regs slots n p).2 = (sMBlks regs slots n p).2 := by
  refine rep_same (f := sMBlkN regs slots n) (g := sMBlkF regs slots n) (nf := addN) (ng := nxMB) (fun t p => isB p.1 ∧ 0 ≤ t) (fun t p hg => ⟨rfl, fun h0 => ?_⟩) n.toNat 0 p ⟨hb, Int.le_refl 0⟩
  have h0' : (sMBlkF regs slots n t p).2.2 = 0 := h0
  have hc := cntI_lin (t := t) hg.1
  have hcode : (sMCode regs slots (cntI t p).1 (cntI t p).2).2.2 = 0 := Classical.byContradiction fun h9 => by
    have h1 : (sTrm regs n (sMCode regs slots (cntI t p).1 (cntI t p).2).2).2.2 = 0 := h0'
    rw [sTrm_st h9 (by omega) (by omega)] at h1
    exact h9 h1
  have hlen : (sMCode regs slots (cntI t p).1 (cntI t p).2).1.length = (cntI t p).1.toNat := rep_full _ _ _ hcode
  refine ⟨?_, isB_sub hg.1 (sMBlkF_suf regs slots n t p), ?_⟩
  · show t + (cntI t p).1 = t + ((sMCode regs slots (cntI t p).1 (cntI t p).2).1.length : Int)
    omega
  · show 0 ≤ t + (cntI t p).1
    have := hg.2
    omega
/-- What the reference's function is to the cost's. -/
theorem dFn_same {l : List Int} (hb : isB l) : (dFn (l, 0)).2 = (sFnR (l, 0)).2 ∧ ((dFn (l, 0)).2.2 = 0 → (sFnR (l, 0)).1.args = (dFn (l, 0)).1.1.args ∧ (sFnR (l, 0)).1.regs = (dFn (l, 0)).1.1.regs ∧ ((sFnR (l, 0)).1.blocks.length : Int) = (dFn (l, 0)).1.1.blocks) := by
  have hs := sHead_suf (l, 0)
  have hb2 : isB (sHead (l, 0)).2.1 := isB_sub hb hs
  obtain ⟨c1, c2, c3⟩ := cntB_lin hb2
  have hb3 : isB (cntB (sHead (l, 0)).2).2.1 := isB_sub hb2 (cntC_suf _ _ _ _ _)
  have hba : isB (sUint 1048576 (l, 0)).2.1 := isB_sub hb (sUint_suf _ _)
  have hr := sUint_range (most := 1048576) (p := (sUint 1048576 (l, 0)).2) hba
  have hsame := dBlks_same (regs := (sHead (l, 0)).1.2) (n := (cntB (sHead (l, 0)).2).1) (p := (cntB (sHead (l, 0)).2).2) hb3 (hr.2.2 (by decide)) c2
  refine ⟨hsame, fun h0 => ?_⟩
  have h1 : (sBlks (sHead (l, 0)).1.2 (cntB (sHead (l, 0)).2).1 (cntB (sHead (l, 0)).2).2).2.2 = 0 := by rw [← hsame]; exact h0
  have hfn : (sFnR (l, 0)).1 = ⟨(sHead (l, 0)).1.1, (sHead (l, 0)).1.2, (sBlks (sHead (l, 0)).1.2 (cntB (sHead (l, 0)).2).1 (cntB (sHead (l, 0)).2).2).1⟩ := if_pos h1
  rw [hfn]
  have hlen := rep_full _ _ _ h1
  refine ⟨rfl, rfl, ?_⟩
  show ((sBlks (sHead (l, 0)).1.2 (cntB (sHead (l, 0)).2).1 (cntB (sHead (l, 0)).2).2).1.length : Int) = (cntB (sHead (l, 0)).2).1
  have hlen' : (sBlks (sHead (l, 0)).1.2 (cntB (sHead (l, 0)).2).1 (cntB (sHead (l, 0)).2).2).1.length = (cntB (sHead (l, 0)).2).1.toNat := hlen
  omega
theorem dMFn_same {l : List Int} (hb : isB l) : (dMFn (l, 0)).2 = (sMFnR (l, 0)).2 ∧ ((dMFn (l, 0)).2.2 = 0 → (sMFnR (l, 0)).1.args = (dMFn (l, 0)).1.1.args ∧ (sMFnR (l, 0)).1.regs = (dMFn (l, 0)).1.1.regs ∧ (sMFnR (l, 0)).1.slots = (dMFn (l, 0)).1.1.slots ∧ ((sMFnR (l, 0)).1.blocks.length : Int) = (dMFn (l, 0)).1.1.blocks) := by
  have hs := sMHead_suf (l, 0)
  have hb2 : isB (sMHead (l, 0)).2.1 := isB_sub hb hs
  obtain ⟨c1, c2, c3⟩ := cntB_lin hb2
  have hb3 : isB (cntB (sMHead (l, 0)).2).2.1 := isB_sub hb2 (cntC_suf _ _ _ _ _)
  have hba : isB (sUint 1048576 (l, 0)).2.1 := isB_sub hb (sUint_suf _ _)
  have hr := sUint_range (most := 1048576) (p := (sUint 1048576 (l, 0)).2) hba
  have hsame := dMBlks_same (regs := (sMHead (l, 0)).1.2.1) (slots := (sMHead (l, 0)).1.2.2) (n := (cntB (sMHead (l, 0)).2).1) (p := (cntB (sMHead (l, 0)).2).2) hb3 (hr.2.2 (by decide)) c2
  refine ⟨hsame, fun h0 => ?_⟩
  have h1 : (sMBlks (sMHead (l, 0)).1.2.1 (sMHead (l, 0)).1.2.2 (cntB (sMHead (l, 0)).2).1 (cntB (sMHead (l, 0)).2).2).2.2 = 0 := by rw [← hsame]; exact h0
  have hfn : (sMFnR (l, 0)).1 = ⟨(sMHead (l, 0)).1.1, (sMHead (l, 0)).1.2.1, (sMHead (l, 0)).1.2.2, (sMBlks (sMHead (l, 0)).1.2.1 (sMHead (l, 0)).1.2.2 (cntB (sMHead (l, 0)).2).1 (cntB (sMHead (l, 0)).2).2).1⟩ := if_pos h1
  rw [hfn]
  have hlen' : (sMBlks (sMHead (l, 0)).1.2.1 (sMHead (l, 0)).1.2.2 (cntB (sMHead (l, 0)).2).1 (cntB (sMHead (l, 0)).2).2).1.length = (cntB (sMHead (l, 0)).2).1.toNat := rep_full _ _ _ h1
  refine ⟨rfl, rfl, rfl, ?_⟩
  show ((sMBlks (sMHead (l, 0)).1.2.1 (sMHead (l, 0)).1.2.2 (cntB (sMHead (l, 0)).2).1 (cntB (sMHead (l, 0)).2).2).1.length : Int) = (cntB (sMHead (l, 0)).2).1
  omega
theorem cntB_bad {p : Ps} (h : p.2 ≠ 0) : (cntB p).1 = 0 ∧ (cntB p).2.2 ≠ 0 :=
  ⟨by unfold cntB cntC; rw [sCount_err h], by rw [cntB_st h]; exact h⟩
theorem dFn_bad {p : Ps} (h : (sHead p).2.2 ≠ 0) : (dFn p).2.2 ≠ 0 := by
  obtain ⟨h1, h2⟩ := cntB_bad h
  have e : (dFn p).2 = (dBlks (sHead p).1.2 (cntB (sHead p).2).1 (cntB (sHead p).2).2).2 := rfl
  rw [e, h1]
  exact h2
theorem dMFn_bad {p : Ps} (h : (sMHead p).2.2 ≠ 0) : (dMFn p).2.2 ≠ 0 := by
  obtain ⟨h1, h2⟩ := cntB_bad h
  have e : (dMFn p).2 = (dMBlks (sMHead p).1.2.1 (sMHead p).1.2.2 (cntB (sMHead p).2).1 (cntB (sMHead p).2).2).2 := rfl
  rw [e, h1]
  exact h2
theorem sBlkW_bad {vregs regs slots t : Int} {p : Ps} (h : (cntI t p).2.2 ≠ 0) : (sBlkW vregs regs slots t p).2.2 ≠ 0 := by
  have e : (sBlkW vregs regs slots t p).2 = (sPrs vregs regs slots (cntI t p).1 (cntI t p).2).2 := rfl
  rw [e, sPrs_st h]
  exact h
/-- One invariant, read on its own. -/
theorem sInv_one {vregs regs slots t : Int} {p : Ps} (hp : p.2 = 0) (hb : isB p.1) (ht : 0 ≤ t) (h : (sCount 1048576 2 p).2.2 = 0) (hle : t + (sCount 1048576 2 p).1 ≤ 1048576) : (sInv vregs regs slots 1 p).2 = (sBlk vregs regs slots t p).2 := by
  have hc := sCount_range (most := 1048576) (size := 2) hb (by decide)
  have h1 : sInv vregs regs slots 1 p = ([(sBlk vregs regs slots 0 p).1], (sBlk vregs regs slots 0 p).2) := by
    show rep (sBlk vregs regs slots) nxT (0 + 1) 0 p = _
    rw [rep_step hp]
    rfl
  rw [h1]
  have e0 : cntC 1048576 2 6 (fun n => decide (0 + n ≤ 1048576)) p = sCount 1048576 2 p := by
    unfold cntC
    rw [if_pos (decide_eq_true (by omega))]
  have e1 : cntC 1048576 2 6 (fun n => decide (t + n ≤ 1048576)) p = sCount 1048576 2 p := by
    unfold cntC
    rw [if_pos (decide_eq_true hle)]
  unfold sBlk
  dsimp only
  rw [e0, e1]
theorem cs3 {G : Gh} {X Y Z : List Int} {vals : List Value} (h : kBs.Cs G [X, Y, Z] vals) : ∃ A0 c0 A1 c1 A2 c2, vals = [.slice A0 X.length c0, .slice A1 Y.length c1, .slice A2 Z.length c2] ∧ SlB G A0 c0 X ∧ SlB G A1 c1 Y ∧ SlB G A2 c2 Z ∧ isB X ∧ isB Y ∧ isB Z := by
  obtain ⟨css, h1, rfl⟩ := h
  match css, h1 with
  | [a, b, c], h1 =>
    obtain ⟨h2, h3, h4, _⟩ := h1
    obtain ⟨A0, c0, rfl, s0, b0⟩ := kBs_R h2
    obtain ⟨A1, c1, rfl, s1, b1⟩ := kBs_R h3
    obtain ⟨A2, c2, rfl, s2, b2⟩ := kBs_R h4
    exact ⟨A0, c0, A1, c1, A2, c2, rfl, s0, s1, s2, b0, b1, b2⟩
end Go.Proofs.Ytkhajngpcgmpnaa.Cu
