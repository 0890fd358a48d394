/- DcIx: DcI, DcJ in one text. -/
import Derived.Test.YtkhajngpcgmpnaaDcE
import Derived.Test.YtkhajngpcgmpnaaDcH
import Derived.Test.YtkhajngpcgmpnaaDc8
import Derived.Test.YtkhajngpcgmpnaaSXP
namespace Go.Proofs.Ytkhajngpcgmpnaa.Cu
open Go Go.SX Go.Proofs.Ytkhajngpcgmpnaa.VT
set_option maxRecDepth 100000
set_option linter.unusedVariables false
set_option linter.unusedSimpArgs false

theorem rep_map {σ α β : Type} {f : σ → Ps → α × Ps} {g : σ → Ps → β × Ps} {nf : σ → α → σ} {ng : σ → β → σ} (hm : β → α) (good : σ → Ps → Prop)
    (h : ∀ s p, good s p → (f s p).2 = (g s p).2 ∧ ((f s p).2.2 = 0 → (f s p).1 = hm (g s p).1 ∧ nf s (f s p).1 = ng s (g s p).1 ∧ good (nf s (f s p).1) (f s p).2)) :
    ∀ n s p, good s p → (rep f nf n s p).2.2 = 0 → (rep f nf n s p).1 = (rep g ng n s p).1.map hm
  | 0, s, p, _, _ => rfl
  | n + 1, s, p, hg, h0 => by
    by_cases hp : p.2 = 0
    · rw [rep_step hp] at h0 ⊢
      rw [rep_step hp]
      dsimp only at h0 ⊢
      obtain ⟨h1, h2⟩ := h s p hg
      by_cases he : (f s p).2.2 = 0
      · obtain ⟨h3, h4, h5⟩ := h2 he
        have ih := rep_map hm good h n _ _ h5 h0
        rw [ih, h4, h1, List.map_cons, h3]
      · rw [rep_err he] at h0
        exact absurd h0 he
    · rw [rep_err hp, rep_err hp]; rfl
theorem sumI_map {β : Type} (hm : β → Int) : ∀ (l : List β), sumI (l.map hm) = (l.map hm).foldr (· + ·) 0
  | [] => rfl
  | x :: l => by rw [List.map_cons, sumI_cons, sumI_map hm l]; rfl
theorem sumI_totB : ∀ (l : List Blk), sumI (l.map fun b => (b.code.length : Int)) = totB l
  | [] => rfl
  | b :: l => by rw [List.map_cons, sumI_cons, sumI_totB l]; simp [totB]
theorem sumI_totMB : ∀ (l : List MBlk), sumI (l.map fun b => (b.code.length : Int)) = totMB l
  | [] => rfl
  | b :: l => by rw [List.map_cons, sumI_cons, sumI_totMB l]; simp [totMB]
def totW : List (List Pr) → Nat
  | [] => 0
  | y :: l => y.length + totW l
theorem sumI_totW : ∀ (l : List (List Pr)), sumI (l.map fun b => (b.length : Int)) = totW l
  | [] => rfl
  | b :: l => by rw [List.map_cons, sumI_cons, sumI_totW l]; simp [totW]
theorem totW_take : ∀ (l : List (List Pr)) (k : Nat) (x : List Pr), l[k]? = some x → totW (l.take (k + 1)) = totW (l.take k) + x.length
  | [], k, x, h => by simp at h
  | y :: l, 0, x, h => by simp at h; subst h; simp [totW]
  | y :: l, k + 1, x, h => by
    have := totW_take l k x (by simpa using h)
    simp only [List.take_succ_cons, totW, this]; omega
theorem totW_le : ∀ (l : List (List Pr)) (k : Nat), totW (l.take k) ≤ totW l
  | [], k => by simp
  | y :: l, 0 => by simp [totW]
  | y :: l, k + 1 => by have := totW_le l k; simp only [List.take_succ_cons, totW]; omega
theorem totW_small (b : Nat) : ∀ (l : List (List Pr)), (∀ y ∈ l, y.length ≤ b) → totW l ≤ b * l.length
  | [], _ => by simp [totW]
  | y :: l, h => by
    have h1 := totW_small b l fun z hz => h z (by simp [hz])
    have h2 := h y (by simp)
    simp only [totW, List.length_cons, Nat.mul_add]; omega
theorem dFn_exact {f : Fn} (h : okFn f) (hb : isB (wFn f)) : (dFn (wFn f, 0)).2 = ([], 0) ∧ (dFn (wFn f, 0)).1.1.blocks = f.blocks.length ∧ (dFn (wFn f, 0)).1.1.args = f.args ∧ (dFn (wFn f, 0)).1.1.regs = f.regs ∧ sumI (dFn (wFn f, 0)).1.2 = totB f.blocks := by
  have hr := (Cod.fn (sh := fun e => e ≠ 0) (by decide) (fun _ h => h)).rt f [] h
  rw [List.append_nil, ← wFn_eq h] at hr
  obtain ⟨h1, h2⟩ := dFn_same hb
  rw [hr] at h1 h2
  have h0 : (dFn (wFn f, 0)).2.2 = 0 := by rw [h1]
  obtain ⟨h3, h4, h5⟩ := h2 h0
  refine ⟨h1, h5.symm, h3.symm, h4.symm, ?_⟩
  have hs := sHead_suf (wFn f, 0)
  have hb2 : isB (sHead (wFn f, 0)).2.1 := isB_sub hb hs
  obtain ⟨c1, c2, c3⟩ := cntB_lin hb2
  have hb3 : isB (cntB (sHead (wFn f, 0)).2).2.1 := isB_sub hb2 (cntC_suf _ _ _ _ _)
  have hba : isB (sUint 1048576 (wFn f, 0)).2.1 := isB_sub hb (sUint_suf _ _)
  have hrr := sUint_range (most := 1048576) (p := (sUint 1048576 (wFn f, 0)).2) hba
  have hreg : (sHead (wFn f, 0)).1.2 ≤ 1048576 := hrr.2.2 (by decide)
  have hmap := rep_map (f := sBlkN (sHead (wFn f, 0)).1.2 (cntB (sHead (wFn f, 0)).2).1) (g := sBlkF (sHead (wFn f, 0)).1.2 (cntB (sHead (wFn f, 0)).2).1) (nf := addN) (ng := nxB) (fun b => (b.code.length : Int)) (fun t p => isB p.1 ∧ 0 ≤ t) (fun t p hg => ⟨rfl, fun h0 => by
    have h0' : (sBlkF (sHead (wFn f, 0)).1.2 (cntB (sHead (wFn f, 0)).2).1 t p).2.2 = 0 := h0
    have hc := cntI_lin (t := t) hg.1
    have hcode : (sCode (sHead (wFn f, 0)).1.2 (cntI t p).1 (cntI t p).2).2.2 = 0 := Classical.byContradiction fun h9 => by
      have h1 : (sTrm (sHead (wFn f, 0)).1.2 (cntB (sHead (wFn f, 0)).2).1 (sCode (sHead (wFn f, 0)).1.2 (cntI t p).1 (cntI t p).2).2).2.2 = 0 := h0'
      rw [sTrm_st h9 (by omega) (by omega)] at h1
      exact h9 h1
    have hlen : (sCode (sHead (wFn f, 0)).1.2 (cntI t p).1 (cntI t p).2).1.length = (cntI t p).1.toNat := rep_full _ _ _ hcode
    refine ⟨?_, ?_, isB_sub hg.1 (sBlkF_suf _ _ t p), ?_⟩
    · show (cntI t p).1 = ((sCode (sHead (wFn f, 0)).1.2 (cntI t p).1 (cntI t p).2).1.length : Int)
      omega
    · show t + (cntI t p).1 = t + ((sCode (sHead (wFn f, 0)).1.2 (cntI t p).1 (cntI t p).2).1.length : Int)
      omega
    · show 0 ≤ t + (cntI t p).1
      have := hg.2
      omega⟩) (cntB (sHead (wFn f, 0)).2).1.toNat 0 (cntB (sHead (wFn f, 0)).2).2 ⟨hb3, Int.le_refl 0⟩ h0
  have hd : (dFn (wFn f, 0)).1.2 = (sBlks (sHead (wFn f, 0)).1.2 (cntB (sHead (wFn f, 0)).2).1 (cntB (sHead (wFn f, 0)).2).2).1.map fun b => (b.code.length : Int) := hmap
  have hfn : (sFnR (wFn f, 0)).1 = ⟨(sHead (wFn f, 0)).1.1, (sHead (wFn f, 0)).1.2, (sBlks (sHead (wFn f, 0)).1.2 (cntB (sHead (wFn f, 0)).2).1 (cntB (sHead (wFn f, 0)).2).2).1⟩ := by
    refine if_pos ?_
    have hsame := dBlks_same (regs := (sHead (wFn f, 0)).1.2) (n := (cntB (sHead (wFn f, 0)).2).1) (p := (cntB (sHead (wFn f, 0)).2).2) hb3 hreg c2
    rw [← hsame]
    exact h0
  rw [hr] at hfn
  have hbl : f.blocks = (sBlks (sHead (wFn f, 0)).1.2 (cntB (sHead (wFn f, 0)).2).1 (cntB (sHead (wFn f, 0)).2).2).1 := congrArg Fn.blocks hfn
  rw [hd, ← hbl, sumI_totB]
theorem dMFn_exact {f : MFn} (h : okMFn f) (hb : isB (wMFn f)) : (dMFn (wMFn f, 0)).2 = ([], 0) ∧ (dMFn (wMFn f, 0)).1.1.blocks = f.blocks.length ∧ (dMFn (wMFn f, 0)).1.1.args = f.args ∧ (dMFn (wMFn f, 0)).1.1.regs = f.regs ∧ (dMFn (wMFn f, 0)).1.1.slots = f.slots ∧ sumI (dMFn (wMFn f, 0)).1.2 = totMB f.blocks := by
  have hr := (Cod.mfn (sh := fun e => e ≠ 0) (by decide) (fun _ h => h)).rt f [] h
  rw [List.append_nil, ← wMFn_eq h] at hr
  obtain ⟨h1, h2⟩ := dMFn_same hb
  rw [hr] at h1 h2
  have h0 : (dMFn (wMFn f, 0)).2.2 = 0 := by rw [h1]
  obtain ⟨h3, h4, h6, h5⟩ := h2 h0
  refine ⟨h1, h5.symm, h3.symm, h4.symm, h6.symm, ?_⟩
  have hs := sMHead_suf (wMFn f, 0)
  have hb2 : isB (sMHead (wMFn f, 0)).2.1 := isB_sub hb hs
  obtain ⟨c1, c2, c3⟩ := cntB_lin hb2
  have hb3 : isB (cntB (sMHead (wMFn f, 0)).2).2.1 := isB_sub hb2 (cntC_suf _ _ _ _ _)
  have hba : isB (sUint 1048576 (wMFn f, 0)).2.1 := isB_sub hb (sUint_suf _ _)
  have hrr := sUint_range (most := 1048576) (p := (sUint 1048576 (wMFn f, 0)).2) hba
  have hreg : (sMHead (wMFn f, 0)).1.2.1 ≤ 1048576 := hrr.2.2 (by decide)
  have hmap := rep_map (f := sMBlkN (sMHead (wMFn f, 0)).1.2.1 (sMHead (wMFn f, 0)).1.2.2 (cntB (sMHead (wMFn f, 0)).2).1) (g := sMBlkF (sMHead (wMFn f, 0)).1.2.1 (sMHead (wMFn f, 0)).1.2.2 (cntB (sMHead (wMFn f, 0)).2).1) (nf := addN) (ng := nxMB) (fun b => (b.code.length : Int)) (fun t p => isB p.1 ∧ 0 ≤ t) (fun t p hg => ⟨rfl, fun h0 => by
    have h0' : (sMBlkF (sMHead (wMFn f, 0)).1.2.1 (sMHead (wMFn f, 0)).1.2.2 (cntB (sMHead (wMFn f, 0)).2).1 t p).2.2 = 0 := h0
    have hc := cntI_lin (t := t) hg.1
    have hcode : (sMCode (sMHead (wMFn f, 0)).1.2.1 (sMHead (wMFn f, 0)).1.2.2 (cntI t p).1 (cntI t p).2).2.2 = 0 := Classical.byContradiction fun h9 => by
      have h1 : (sTrm (sMHead (wMFn f, 0)).1.2.1 (cntB (sMHead (wMFn f, 0)).2).1 (sMCode (sMHead (wMFn f, 0)).1.2.1 (sMHead (wMFn f, 0)).1.2.2 (cntI t p).1 (cntI t p).2).2).2.2 = 0 := h0'
      rw [sTrm_st h9 (by omega) (by omega)] at h1
      exact h9 h1
    have hlen : (sMCode (sMHead (wMFn f, 0)).1.2.1 (sMHead (wMFn f, 0)).1.2.2 (cntI t p).1 (cntI t p).2).1.length = (cntI t p).1.toNat := rep_full _ _ _ hcode
    refine ⟨?_, ?_, isB_sub hg.1 (sMBlkF_suf _ _ _ t p), ?_⟩
    · show (cntI t p).1 = ((sMCode (sMHead (wMFn f, 0)).1.2.1 (sMHead (wMFn f, 0)).1.2.2 (cntI t p).1 (cntI t p).2).1.length : Int)
      omega
    · show t + (cntI t p).1 = t + ((sMCode (sMHead (wMFn f, 0)).1.2.1 (sMHead (wMFn f, 0)).1.2.2 (cntI t p).1 (cntI t p).2).1.length : Int)
      omega
    · show 0 ≤ t + (cntI t p).1
      have := hg.2
      omega⟩) (cntB (sMHead (wMFn f, 0)).2).1.toNat 0 (cntB (sMHead (wMFn f, 0)).2).2 ⟨hb3, Int.le_refl 0⟩ h0
  have hd : (dMFn (wMFn f, 0)).1.2 = (sMBlks (sMHead (wMFn f, 0)).1.2.1 (sMHead (wMFn f, 0)).1.2.2 (cntB (sMHead (wMFn f, 0)).2).1 (cntB (sMHead (wMFn f, 0)).2).2).1.map fun b => (b.code.length : Int) := hmap
  have hfn : (sMFnR (wMFn f, 0)).1 = ⟨(sMHead (wMFn f, 0)).1.1, (sMHead (wMFn f, 0)).1.2.1, (sMHead (wMFn f, 0)).1.2.2, (sMBlks (sMHead (wMFn f, 0)).1.2.1 (sMHead (wMFn f, 0)).1.2.2 (cntB (sMHead (wMFn f, 0)).2).1 (cntB (sMHead (wMFn f, 0)).2).2).1⟩ := by
    refine if_pos ?_
    have hsame := dMBlks_same (regs := (sMHead (wMFn f, 0)).1.2.1) (slots := (sMHead (wMFn f, 0)).1.2.2) (n := (cntB (sMHead (wMFn f, 0)).2).1) (p := (cntB (sMHead (wMFn f, 0)).2).2) hb3 hreg c2
    rw [← hsame]
    exact h0
  rw [hr] at hfn
  have hbl : f.blocks = (sMBlks (sMHead (wMFn f, 0)).1.2.1 (sMHead (wMFn f, 0)).1.2.2 (cntB (sMHead (wMFn f, 0)).2).1 (cntB (sMHead (wMFn f, 0)).2).2).1 := congrArg MFn.blocks hfn
  rw [hd, ← hbl, sumI_totMB]
theorem dInv_exact {vregs regs slots : Int} {w : List (List Pr)} (h : okInv vregs regs slots w) (hb : isB (encI w)) (hv : 0 ≤ vregs ∧ vregs ≤ 1048576) (hr : regs ≤ 1048576) (hs : slots ≤ 1048576) : sumI (dInv vregs regs slots w.length (encI w, 0)).1 = totW w := by
  have hrt := (Cod.inv (sh := fun e => e ≠ 0) (by decide) (fun _ h => h) (vregs := vregs) (regs := regs) (slots := slots) ⟨hv.1, by omega⟩ (by omega) (by omega) w.length).rt w [] ⟨rfl, h⟩
  rw [List.append_nil, show encInv w = encI w from encI_eq 0 w] at hrt
  have hsame : (dInv vregs regs slots w.length (encI w, 0)).2 = (sInv vregs regs slots w.length (encI w, 0)).2 := by
    refine rep_same (f := sBlkW vregs regs slots) (g := sBlk vregs regs slots) (nf := addN) (ng := nxT) (fun t p => isB p.1 ∧ 0 ≤ t) (fun t p hg => ⟨rfl, fun h0 => ?_⟩) _ 0 (encI w, 0) ⟨hb, Int.le_refl 0⟩
    have hlen : (sBlk vregs regs slots t p).1.length = (cntI t p).1.toNat := rep_full (cntI t p).1.toNat ps0 (cntI t p).2 h0
    have hc := cntI_lin (t := t) hg.1
    refine ⟨?_, isB_sub hg.1 (sBlkW_suf _ _ _ t p), ?_⟩
    · show t + (cntI t p).1 = t + ((sBlk vregs regs slots t p).1.length : Int)
      omega
    · show 0 ≤ t + (cntI t p).1
      have := hg.2
      omega
  have h0 : (dInv vregs regs slots w.length (encI w, 0)).2.2 = 0 := by rw [hsame, hrt]
  have hmap := rep_map (f := sBlkW vregs regs slots) (g := sBlk vregs regs slots) (nf := addN) (ng := nxT) (fun b => (b.length : Int)) (fun t p => isB p.1 ∧ 0 ≤ t) (fun t p hg => ⟨rfl, fun h0 => by
    have hlen : (sBlk vregs regs slots t p).1.length = (cntI t p).1.toNat := rep_full (cntI t p).1.toNat ps0 (cntI t p).2 h0
    have hc := cntI_lin (t := t) hg.1
    refine ⟨?_, ?_, isB_sub hg.1 (sBlkW_suf _ _ _ t p), ?_⟩
    · show (cntI t p).1 = ((sBlk vregs regs slots t p).1.length : Int)
      omega
    · show t + (cntI t p).1 = t + ((sBlk vregs regs slots t p).1.length : Int)
      omega
    · show 0 ≤ t + (cntI t p).1
      have := hg.2
      omega⟩) (w.length : Int).toNat 0 (encI w, 0) ⟨hb, Int.le_refl 0⟩ h0
  have hd : (dInv vregs regs slots w.length (encI w, 0)).1 = (sInv vregs regs slots w.length (encI w, 0)).1.map fun b => (b.length : Int) := hmap
  rw [hd, hrt, sumI_totW]
/-- What an encoding costs. -/
theorem dOf_exact {x : Crt} (h : okCrt x) (b1 : isB (wFn x.s)) (b2 : isB (wMFn x.t)) (b3 : isB (encI x.w)) (hl : (wFn x.s).length ≤ 1000000 ∧ (wMFn x.t).length ≤ 1000000 ∧ (encI x.w).length ≤ 1000000) :
    (dOf (encCrt x)).blocks = 2 * x.w.length ∧ (dOf (encCrt x)).instrs = totB x.s.blocks + totMB x.t.blocks ∧ (dOf (encCrt x)).pairs = totW x.w ∧ (dOf (encCrt x)).bytes ≤ (encCrt x).length - 9 := by
  obtain ⟨hs, ht, ⟨hn, ha⟩, hw1, hw2⟩ := h
  obtain ⟨l1, l2, l3⟩ := hl
  have hp1 := putB_len (wFn x.s).length
  have hp2 := putB_len (wMFn x.t).length
  have hp3 := putB_len (encI x.w).length
  have hq1 : 1 ≤ (putB (wFn x.s).length).length := vput_len_pos 9 _
  have hq2 : 1 ≤ (putB (wMFn x.t).length).length := vput_len_pos 9 _
  have hq3 : 1 ≤ (putB (encI x.w).length).length := vput_len_pos 9 _
  have hplen : (packB [1, 2, 3] [wFn x.s, wMFn x.t, encI x.w]).length = 3 + (putB (wFn x.s).length).length + (wFn x.s).length + (putB (wMFn x.t).length).length + (wMFn x.t).length + (putB (encI x.w).length).length + (encI x.w).length := by
    simp only [packB, List.length_cons, List.length_append, List.length_nil]; omega
  have hg : splitR [1, 2, 3] (packB [1, 2, 3] [wFn x.s, wMFn x.t, encI x.w]) = ([wFn x.s, wMFn x.t, encI x.w], 0) := by
    refine splitR_good rfl (by decide) ?_ (by rw [hplen]; omega)
    intro c hc
    simp only [List.mem_cons, List.not_mem_nil, or_false] at hc
    rcases hc with rfl | rfl | rfl
    · exact ⟨b1, by omega⟩
    · exact ⟨b2, by omega⟩
    · exact ⟨b3, by omega⟩
  have hpb : isB (packB [1, 2, 3] [wFn x.s, wMFn x.t, encI x.w]) := packB_isb (by decide) (fun d hd => by
    simp only [List.mem_cons, List.not_mem_nil, or_false] at hd
    rcases hd with rfl | rfl | rfl
    · exact ⟨b1, by omega⟩
    · exact ⟨b2, by omega⟩
    · exact ⟨b3, by omega⟩)
  have hsp : (splitS [1, 2, 3] (packB [1, 2, 3] [wFn x.s, wMFn x.t, encI x.w], 0)).1 = [wFn x.s, wMFn x.t, encI x.w] := congrArg Prod.fst hg
  have hz : (splitR [1, 2, 3] (packB [1, 2, 3] [wFn x.s, wMFn x.t, encI x.w])).2 = 0 := by rw [hg]
  have hds : dSplit [1, 2, 3] (packB [1, 2, 3] [wFn x.s, wMFn x.t, encI x.w], 0) = [wFn x.s, wMFn x.t, encI x.w] := by
    rw [dSplit_of _ _ hpb (by rw [hplen]; omega) (splitR_err0 hz), hsp]
  have hL : sumL [wFn x.s, wMFn x.t, encI x.w] = (wFn x.s).length + ((wMFn x.t).length + ((encI x.w).length + 0)) := by rw [sumL_cons, sumL_cons, sumL_cons]; rfl
  have hf : dFirst (packB [1, 2, 3] [wFn x.s, wMFn x.t, encI x.w]) = dFn (wFn x.s, 0) := by unfold dFirst; rw [hsp]; rfl
  have hse : dSecond (packB [1, 2, 3] [wFn x.s, wMFn x.t, encI x.w]) = dMFn (wMFn x.t, 0) := by unfold dSecond; rw [hsp]; rfl
  have hg3 : (splitS [1, 2, 3] (packB [1, 2, 3] [wFn x.s, wMFn x.t, encI x.w], 0)).1.getD 2 [] = encI x.w := by rw [hsp]; rfl
  obtain ⟨f1, f2, f3, f4, f5⟩ := dFn_exact hs b1
  obtain ⟨g1, g2, g3, g4, g5, g6⟩ := dMFn_exact ht b2
  have hregs : 0 ≤ x.s.regs ∧ x.s.regs ≤ 1048576 := by have := hs.1; omega
  have htr : x.t.regs ≤ 1048576 ∧ x.t.slots ≤ 1048576 := by have := ht.1; omega
  have hw3 := dInv_exact hw2 b3 hregs htr.1 htr.2
  have he : dOf (encCrt x) = dBody (packB [1, 2, 3] [wFn x.s, wMFn x.t, encI x.w]) := by
    unfold dOf
    rw [if_pos (show (encCrt x).take 3 = [82, 67, 1] from rfl)]
    rfl
  have hlen : (encCrt x).length = 3 + (packB [1, 2, 3] [wFn x.s, wMFn x.t, encI x.w]).length := by unfold encCrt; rw [List.length_append]; rfl
  have hse1 : ¬ (sEnd (dFn (wFn x.s, 0)).2).2 ≠ 0 := by rw [f1]; decide
  have hse2 : ¬ ((sEnd (dMFn (wMFn x.t, 0)).2).2 ≠ 0 ∨ (dFn (wFn x.s, 0)).1.1.blocks ≠ (dMFn (wMFn x.t, 0)).1.1.blocks ∨ (dFn (wFn x.s, 0)).1.1.args ≠ (dMFn (wMFn x.t, 0)).1.1.args) := by
    rintro (h9 | h9 | h9)
    · rw [g1] at h9; exact absurd h9 (by decide)
    · rw [f2, g2] at h9; omega
    · rw [f3, g3] at h9; exact h9 ha
  have hbody : dBody (packB [1, 2, 3] [wFn x.s, wMFn x.t, encI x.w]) = ⟨(dFn (wFn x.s, 0)).1.1.blocks + (dMFn (wMFn x.t, 0)).1.1.blocks, sumI (dFn (wFn x.s, 0)).1.2 + sumI (dMFn (wMFn x.t, 0)).1.2, sumI (dInv (dFn (wFn x.s, 0)).1.1.regs (dMFn (wMFn x.t, 0)).1.1.regs (dMFn (wMFn x.t, 0)).1.1.slots (dFn (wFn x.s, 0)).1.1.blocks (encI x.w, 0)).1, sumL [wFn x.s, wMFn x.t, encI x.w]⟩ := by
    unfold dBody
    rw [if_neg (by simp [hz]), hf, hse, hg3, hds]
    dsimp only
    rw [if_neg hse1, if_neg hse2]
  rw [he, hbody, hlen, hplen, hL]
  dsimp only
  rw [f2, g2, f5, g6, f4, g4, g5, ← hw1, hw3]
  refine ⟨by omega, rfl, rfl, by omega⟩
end Go.Proofs.Ytkhajngpcgmpnaa.Cu

namespace Go.Proofs.Ytkhajngpcgmpnaa.Cu
open Go Go.SX Go.Proofs.Ytkhajngpcgmpnaa.VT
set_option maxRecDepth 100000
set_option linter.unusedVariables false
set_option linter.unusedSimpArgs false

structure CrtF (x : Crt) : Prop where
  b1 : isB (wFn x.s)
  b2 : isB (wMFn x.t)
  b3 : isB (encI x.w)
  l1 : (wFn x.s).length ≤ 20000
  l2 : (wMFn x.t).length ≤ 60000
  l3 : (encI x.w).length ≤ 330000
  b : isB (encCrt x)
  l : (encCrt x).length ≤ 500000
theorem crt_facts {x : Crt} (h : okCrt x) (hS : Sml x) : CrtF x := by
  obtain ⟨k1, k2, k3, m1, m2, m3, m4, n1, n2⟩ := hS
  have q1 := wBs_le x.s.blocks
  have q2 := wMBs_le x.t.blocks
  have q3 := encI_le 400 x.w n2
  have q4 := wFn_le x.s
  have q5 := wMFn_le x.t
  have b1 := wFn_isb h.1
  have b2 := wMFn_isb h.2.1
  have b3 := encI_isb x.w (fun y hy => by have := n2 y hy; omega)
  have hpb : isB (packB [1, 2, 3] [wFn x.s, wMFn x.t, encI x.w]) := packB_isb (by decide) (fun d hd => by
    simp only [List.mem_cons, List.not_mem_nil, or_false] at hd
    rcases hd with rfl | rfl | rfl
    · exact ⟨b1, by omega⟩
    · exact ⟨b2, by omega⟩
    · exact ⟨b3, by omega⟩)
  have hp1 := putB_len (wFn x.s).length
  have hp2 := putB_len (wMFn x.t).length
  have hp3 := putB_len (encI x.w).length
  refine ⟨b1, b2, b3, by omega, by omega, by omega, ?_, ?_⟩
  · intro y hy
    unfold encCrt at hy
    rcases List.mem_append.1 hy with hy | hy
    · exact (show isB [82, 67, 1] by decide) y hy
    · exact hpb y hy
  · unfold encCrt
    simp only [packB, List.length_cons, List.length_append, List.length_nil]
    omega
set_option maxHeartbeats 8000000 in
theorem dexact_fn {G : Gh} {A B C : Option Addr} {a b c : Nat} (x : Crt) (hG : CrtG G A B C a b c x) :
    Ct Try.prog 5 [crtS A B C a b c x] [] G fun sv H' G' => sv = .v (.bool true) ∧ H' = [] := by
  refine fn_of follows [(12, (.cons 0 [] (.cons 1 [] (.cons 2 [] (.cons 3 [] (.cons 4 [] (.cons 5 [] (.cons 6 [] (.cons 7 [] (.cons 8 [] (.cons 9 [] (.cons 10 [] (.cons 11 [] (.cons 12 [] (.cons 13 [] (.cons 14 [] (.cons 15 [] (.cons 16 [] (.cons 17 [] (.cons 18 [] (.cons 19 [] .nil)))))))))))))))))))))] Try.func5 rfl rfl fun E hE => ?_
  unfold crtS
  repeat' ((fail_if_success with_reducible refine Stop.mk ?_); (conv => whnf); with_reducible first | refine br_t ?_ | refine br_f ?_ | refine br_nn ?_ | refine br_ns ?_ | refine br_not ?_ | refine br_d (fun h => ?_) (fun h => ?_) | refine br_e (fun h => ?_) (fun h => ?_) | refine br_n (fun h => ?_) (fun h => ?_) | refine drw_fast (by kernel_rfl) ?_ | refine chk (by kernel_rfl) ?_ | refine stop ?_)
  all_goals refine Stop.mk ?_
  refine call_fn [] (awake21_fn _) rfl trivial (by decide) ?_
  rintro sv H' G' ⟨rfl, rfl⟩ hg
  refine ⟨Nat.le_of_ble_eq_true rfl, ?_⟩
  replace hG := hG.to hg
  clear hg
  repeat' ((fail_if_success with_reducible refine Stop.mk ?_); (conv => whnf); with_reducible first | refine br_t ?_ | refine br_f ?_ | refine br_nn ?_ | refine br_ns ?_ | refine br_not ?_ | refine br_d (fun h => ?_) (fun h => ?_) | refine br_e (fun h => ?_) (fun h => ?_) | refine br_n (fun h => ?_) (fun h => ?_) | refine drw_fast (by kernel_rfl) ?_ | refine chk (by kernel_rfl) ?_ | refine stop ?_)
  all_goals refine Stop.mk ?_
  refine call_fn [] (few16_fn hG) rfl trivial (by decide) ?_
  rintro sv H' G' ⟨⟨r, rfl, hfew⟩, rfl, rfl⟩ -
  refine ⟨Nat.le_of_ble_eq_true rfl, ?_⟩
  cases r
  ·
    repeat' ((fail_if_success with_reducible refine Stop.mk ?_); (conv => whnf); with_reducible first | refine br_t ?_ | refine br_f ?_ | refine br_nn ?_ | refine br_ns ?_ | refine br_not ?_ | refine br_d (fun h => ?_) (fun h => ?_) | refine br_e (fun h => ?_) (fun h => ?_) | refine br_n (fun h => ?_) (fun h => ?_) | refine drw_fast (by kernel_rfl) ?_ | refine chk (by kernel_rfl) ?_ | refine stop ?_)
    all_goals refine Stop.mk ?_
    refine call_fn [] (awake21_fn _) rfl trivial (by decide) ?_
    rintro sv H' G' ⟨rfl, rfl⟩ -
    refine ⟨Nat.le_of_ble_eq_true rfl, ?_⟩
    repeat' ((fail_if_success with_reducible refine Stop.mk ?_); (conv => whnf); with_reducible first | refine br_t ?_ | refine br_f ?_ | refine br_nn ?_ | refine br_ns ?_ | refine br_not ?_ | refine br_d (fun h => ?_) (fun h => ?_) | refine br_e (fun h => ?_) (fun h => ?_) | refine br_n (fun h => ?_) (fun h => ?_) | refine drw_fast (by kernel_rfl) ?_ | refine chk (by kernel_rfl) ?_ | refine stop ?_)
    all_goals refine Stop.mk ?_
    exact fin_id hE 0 rfl rfl rfl rfl ⟨rfl, rfl⟩
  have hS := hfew rfl
  clear hfew
  repeat' ((fail_if_success with_reducible refine Stop.mk ?_); (conv => whnf); with_reducible first | refine br_t ?_ | refine br_f ?_ | refine br_nn ?_ | refine br_ns ?_ | refine br_not ?_ | refine br_d (fun h => ?_) (fun h => ?_) | refine br_e (fun h => ?_) (fun h => ?_) | refine br_n (fun h => ?_) (fun h => ?_) | refine drw_fast (by kernel_rfl) ?_ | refine chk (by kernel_rfl) ?_ | refine stop ?_)
  all_goals refine Stop.mk ?_
  refine call_fn [] (rencode_fn hG hS) rfl trivial (by decide) ?_
  intro sv H' G' hp hg
  replace hG := hG.to hg
  refine ⟨by rcases hp with ⟨_, _, rfl⟩ | ⟨_, _, _, _, rfl⟩ <;> exact Nat.le_of_ble_eq_true rfl, ?_⟩
  rcases hp with ⟨hok, hp1, hp2⟩ | ⟨_, e, he, hp1, hp2⟩
  rotate_left
  · subst hp1 hp2
    repeat' ((fail_if_success with_reducible refine Stop.mk ?_); (conv => whnf); with_reducible first | refine br_t ?_ | refine br_f ?_ | refine br_nn ?_ | refine br_ns ?_ | refine br_not ?_ | refine br_d (fun h => ?_) (fun h => ?_) | refine br_e (fun h => ?_) (fun h => ?_) | refine br_n (fun h => ?_) (fun h => ?_) | refine drw_fast (by kernel_rfl) ?_ | refine chk (by kernel_rfl) ?_ | refine stop ?_)
    all_goals refine Stop.mk ?_
    all_goals try exact absurd (by assumption) he
    exact fin_id hE 0 rfl rfl rfl rfl ⟨rfl, rfl⟩
  subst hp1 hp2
  clear hg
  repeat' ((fail_if_success with_reducible refine Stop.mk ?_); (conv => whnf); with_reducible first | refine br_t ?_ | refine br_f ?_ | refine br_nn ?_ | refine br_ns ?_ | refine br_not ?_ | refine br_d (fun h => ?_) (fun h => ?_) | refine br_e (fun h => ?_) (fun h => ?_) | refine br_n (fun h => ?_) (fun h => ?_) | refine drw_fast (by kernel_rfl) ?_ | refine chk (by kernel_rfl) ?_ | refine stop ?_)
  all_goals refine Stop.mk ?_
  all_goals try exact absurd rfl (by assumption)
  have hF := crt_facts hok hS
  refine call_fz 1 rfl (byts_one _) (enters_of Try.func9 rfl rfl) fun Ab cb Gb hgb hsb => ?_
  (conv => whnf)
  have hb := SlB.of (encCrt x) hsb rfl rfl rfl
  replace hG := hG.to hgb
  clear hsb hgb
  refine call_fn [] (dof_fn hF.b hb (by have := hF.l; omega)) rfl trivial (by decide) ?_
  rintro sv H' G' ⟨rfl, rfl⟩ hg
  replace hG := hG.to hg
  clear hg hb
  refine ⟨Nat.le_of_ble_eq_true rfl, ?_⟩
  obtain ⟨v1, v2, v3, v4⟩ := dOf_exact hok hF.b1 hF.b2 hF.b3 ⟨by have := hF.l1; omega, by have := hF.l2; omega, by have := hF.l3; omega⟩
  have hl5 := hF.l
  obtain ⟨⟨fa, fr, fb⟩, ⟨ga, gr, gs, gb⟩, w⟩ := x
  obtain ⟨hs, ht, hw⟩ := hG
  obtain ⟨k1, k2, k3, m1, m2, m3, m4, n1, n2⟩ := hS
  have hn : fb.length = w.length ∧ gb.length = w.length := by
    have h1 := hok.2.2.2.1
    have h2 := hok.2.2.1.1
    dsimp only at h1 h2
    omega
  have hWs := totW_small 400 w n2
  clear hok hF
  dsimp only at hs ht hw k1 k2 k3 m1 m2 m3 m4 n1 n2 v1 v2 v3
  generalize hlc : (encCrt ⟨⟨fa, fr, fb⟩, ⟨ga, gr, gs, gb⟩, w⟩).length = lc at *
  have hx : (dOf (encCrt ⟨⟨fa, fr, fb⟩, ⟨ga, gr, gs, gb⟩, w⟩)).sv = .agg [.v (.int .i64 (2 * w.length)), .v (.int .i64 (totB fb + totMB gb)), .v (.int .i64 (totW w)), .v (.int .i64 (dOf (encCrt ⟨⟨fa, fr, fb⟩, ⟨ga, gr, gs, gb⟩, w⟩)).bytes)] := by
    unfold Cst.sv; rw [v1, v2, v3]
  rw [hx]
  clear hx v1 v2 v3
  generalize (dOf (encCrt ⟨⟨fa, fr, fb⟩, ⟨ga, gr, gs, gb⟩, w⟩)).bytes = vb at *
  clear hlc
  dsimp only
  repeat' ((fail_if_success with_reducible refine Stop.mk ?_); (conv => whnf); with_reducible first | refine br_t ?_ | refine br_f ?_ | refine br_nn ?_ | refine br_ns ?_ | refine br_not ?_ | refine br_d (fun h => ?_) (fun h => ?_) | refine br_e (fun h => ?_) (fun h => ?_) | refine br_n (fun h => ?_) (fun h => ?_) | refine drw_fast (by kernel_rfl) ?_ | refine chk (by kernel_rfl) ?_ | refine stop ?_)
  all_goals refine Stop.mk ?_
  refine loop_vars follows [(12, (.cons 0 [] (.cons 1 [] (.cons 2 [] (.cons 3 [] (.cons 4 [] (.cons 5 [] (.cons 6 [] (.cons 7 [] (.cons 8 [] (.cons 9 [] (.cons 10 [] (.cons 11 [] (.cons 12 [] (.cons 13 [] (.cons 14 [] (.cons 15 [] (.cons 16 [] (.cons 17 [] (.cons 18 [] (.cons 19 [] .nil)))))))))))))))))))))] (α := Nat) (fun k => [(6, .v (.int .i64 ((totB (fb.take k) + totMB (gb.take k) : Nat) : Int))), (7, .v (.int .i64 (totW (w.take k) : Nat))), (8, .v (.int .i64 k))])
    (fun k => [.cells 39 [.v (.int .i64 fa), .v (.int .i64 fr), .v (.slice A fb.length a), .v (.int .i64 ga), .v (.int .i64 gr), .v (.int .i64 gs), .v (.slice B gb.length b), .v (.slice C w.length c)], .gone, .cells 25 [.v (.int .i64 (2 * w.length)), .v (.int .i64 (totB fb + totMB gb)), .v (.int .i64 (totW w)), .v (.int .i64 vb)]]) (fun k => G')
    (fun k => k ≤ w.length) (fun k => w.length - k) 0
    (Nat.zero_le _) rfl rfl ?_ ?_
  ·
    refine ⟨?_⟩
    (conv => whnf)
    (repeat' (first | exact trivial | exact .inl rfl | exact .inr rfl | refine And.intro ?_ ?_))
  intro k hk
  have hw2 : IntKind.i64.wrap ((k : Int) + 1) = ((k + 1 : Nat) : Int) := by rw [i64_in (by omega) (by omega)]; simp
  have t1 := totB_take fb k
  have t2 := totMB_take gb k
  have t3 := totW_take w k
  have u1 := totB_le fb (k + 1)
  have u2 := totMB_le gb (k + 1)
  have u3 := totW_le w (k + 1)
  repeat' ((fail_if_success with_reducible refine Stop.mk ?_); (conv => whnf); with_reducible first | refine br_t ?_ | refine br_f ?_ | refine br_nn ?_ | refine br_ns ?_ | refine br_not ?_ | refine br_d (fun h => ?_) (fun h => ?_) | refine br_e (fun h => ?_) (fun h => ?_) | refine br_n (fun h => ?_) (fun h => ?_) | refine drw_fast (by kernel_rfl) ?_ | refine chk (by kernel_rfl) ?_ | refine stop ?_)
  all_goals refine Stop.mk ?_
  ·
    obtain ⟨_, hs_, hat_⟩ := hs.at (sz := 5) rfl
    refine ⟨⟨by omega, by omega⟩, _, hs_, fun ad had => ?_⟩
    obtain ⟨x, cells, hx, hRx, hGx⟩ := hat_ k (by omega) ad (by first | exact had | (rw [Int.toNat_natCast] at had; exact had))
    clear had hat_ hs_
    obtain ⟨A', c', rfl, hS1, hbt1⟩ := kBlk_R hRx
    replace t1 := t1 x hx
    repeat' ((fail_if_success with_reducible refine Stop.mk ?_); (conv => whnf); with_reducible first | refine br_t ?_ | refine br_f ?_ | refine br_nn ?_ | refine br_ns ?_ | refine br_not ?_ | refine br_d (fun h => ?_) (fun h => ?_) | refine br_e (fun h => ?_) (fun h => ?_) | refine br_n (fun h => ?_) (fun h => ?_) | refine drw_fast (by kernel_rfl) ?_ | refine chk (by kernel_rfl) ?_ | refine stop ?_)
    all_goals refine Stop.mk ?_
    refine ⟨_, hGx 0 _ rfl, ?_⟩
    repeat' ((fail_if_success with_reducible refine Stop.mk ?_); (conv => whnf); with_reducible first | refine br_t ?_ | refine br_f ?_ | refine br_nn ?_ | refine br_ns ?_ | refine br_not ?_ | refine br_d (fun h => ?_) (fun h => ?_) | refine br_e (fun h => ?_) (fun h => ?_) | refine br_n (fun h => ?_) (fun h => ?_) | refine drw_fast (by kernel_rfl) ?_ | refine chk (by kernel_rfl) ?_ | refine stop ?_)
    all_goals refine Stop.mk ?_
    obtain ⟨_, hs_, hat_⟩ := ht.at (sz := 5) rfl
    refine ⟨⟨by omega, by omega⟩, _, hs_, fun ad had => ?_⟩
    obtain ⟨y, cells, hy, hRy, hGy⟩ := hat_ k (by omega) ad (by first | exact had | (rw [Int.toNat_natCast] at had; exact had))
    clear had hat_ hs_
    obtain ⟨A2, c2, rfl, hS2, hbt2⟩ := kMBlk_R hRy
    replace t2 := t2 y hy
    repeat' ((fail_if_success with_reducible refine Stop.mk ?_); (conv => whnf); with_reducible first | refine br_t ?_ | refine br_f ?_ | refine br_nn ?_ | refine br_ns ?_ | refine br_not ?_ | refine br_d (fun h => ?_) (fun h => ?_) | refine br_e (fun h => ?_) (fun h => ?_) | refine br_n (fun h => ?_) (fun h => ?_) | refine drw_fast (by kernel_rfl) ?_ | refine chk (by kernel_rfl) ?_ | refine stop ?_)
    all_goals refine Stop.mk ?_
    refine ⟨_, hGy 0 _ rfl, ?_⟩
    repeat' ((fail_if_success with_reducible refine Stop.mk ?_); (conv => whnf); with_reducible first | refine br_t ?_ | refine br_f ?_ | refine br_nn ?_ | refine br_ns ?_ | refine br_not ?_ | refine br_d (fun h => ?_) (fun h => ?_) | refine br_e (fun h => ?_) (fun h => ?_) | refine br_n (fun h => ?_) (fun h => ?_) | refine drw_fast (by kernel_rfl) ?_ | refine chk (by kernel_rfl) ?_ | refine stop ?_)
    all_goals refine Stop.mk ?_
    obtain ⟨_, hs_, hat_⟩ := hw.at (sz := 1) rfl
    refine ⟨⟨by omega, by omega⟩, _, hs_, fun ad had => ?_⟩
    obtain ⟨z, cells, hz, hRz, hGz⟩ := hat_ k (by omega) ad (by first | exact had | (rw [Int.toNat_natCast] at had; exact had))
    clear had hat_ hs_
    obtain ⟨A3, c3, rfl, hS3⟩ := kPrs_R hRz
    replace t3 := t3 z hz
    have hw3 : IntKind.i64.wrap (IntKind.i64.wrap (((totB (fb.take k) + totMB (gb.take k) : Nat) : Int) + (x.code.length : Int)) + (y.code.length : Int)) = ((totB (fb.take (k + 1)) + totMB (gb.take (k + 1)) : Nat) : Int) := by
      rw [i64_in (n := ((totB (fb.take k) + totMB (gb.take k) : Nat) : Int) + (x.code.length : Int)) (by omega) (by omega), i64_in (by omega) (by omega), t1, t2]; omega
    have hw4 : IntKind.i64.wrap (((totW (w.take k) : Nat) : Int) + (z.length : Int)) = ((totW (w.take (k + 1)) : Nat) : Int) := by
      rw [i64_in (by omega) (by omega), t3]; omega
    repeat' ((fail_if_success with_reducible refine Stop.mk ?_); (conv => whnf); with_reducible first | refine br_t ?_ | refine br_f ?_ | refine br_nn ?_ | refine br_ns ?_ | refine br_not ?_ | refine br_d (fun h => ?_) (fun h => ?_) | refine br_e (fun h => ?_) (fun h => ?_) | refine br_n (fun h => ?_) (fun h => ?_) | refine drw_fast (by kernel_rfl) ?_ | refine chk (by kernel_rfl) ?_ | refine stop ?_)
    all_goals refine Stop.mk ?_
    refine ⟨_, ld1 hGz, ?_⟩
    repeat' ((fail_if_success with_reducible refine Stop.mk ?_); (conv => whnf); with_reducible first | refine br_t ?_ | refine br_f ?_ | refine br_nn ?_ | refine br_ns ?_ | refine br_not ?_ | refine br_d (fun h => ?_) (fun h => ?_) | refine br_e (fun h => ?_) (fun h => ?_) | refine br_n (fun h => ?_) (fun h => ?_) | refine drw_fast (by kernel_rfl) ?_ | refine chk (by kernel_rfl) ?_ | refine stop ?_)
    all_goals refine Stop.mk ?_
    rw [hw2, hw3, hw4]
    refine tell_here ⟨k + 1, by omega, by show w.length - (k + 1) < w.length - k; omega, rfl, rfl, ?_⟩
    refine ⟨?_⟩
    (conv => whnf)
    (repeat' (first | exact trivial | exact .inl rfl | exact .inr rfl | refine And.intro ?_ ?_))
  all_goals
    have hkl : k = w.length := by omega
    have e1 : totB (fb.take k) = totB fb := by rw [List.take_of_length_le (by omega)]
    have e2 : totMB (gb.take k) = totMB gb := by rw [List.take_of_length_le (by omega)]
    have e3 : totW (w.take k) = totW w := by rw [List.take_of_length_le (by omega)]
    have w1 : IntKind.i64.wrap (2 * (w.length : Int)) = 2 * (w.length : Int) := i64_in (by omega) (by omega)
    have w2 : IntKind.i64.wrap ((lc : Int) - 9) = (lc : Int) - 9 := i64_in (by omega) (by omega)
  all_goals try (exfalso; omega)
  refine fin_id hE 0 rfl rfl rfl rfl ⟨congrArg (fun e => SV.v (.bool e)) ?_, rfl⟩
  exact decide_eq_true (by omega)
end Go.Proofs.Ytkhajngpcgmpnaa.Cu
