/- The cost of decoding: linear bounds. -/
import Derived.Test.YtkhajngpcgmpnaaDc6
namespace Go.Proofs.Ytkhajngpcgmpnaa.Cu
open Go Go.SX Go.Proofs.Ytkhajngpcgmpnaa.VT
set_option maxRecDepth 100000
set_option linter.unusedVariables false
set_option linter.unusedSimpArgs false

theorem foldl_add (l : List Int) : ∀ a : Int, l.foldl (· + ·) a = a + l.foldl (· + ·) 0 := by
  induction l with
  | nil => intro a; simp
  | cons x l ih => intro a; rw [List.foldl_cons, List.foldl_cons, ih (a + x), ih (0 + x)]; omega
theorem sumI_cons (x : Int) (l : List Int) : sumI (x :: l) = x + sumI l := by
  unfold sumI; rw [List.foldl_cons, foldl_add]; omega
theorem sCount_lin {most size : Int} {p : Ps} (hb : isB p.1) (hs : 0 < size) : size * (sCount most size p).1 ≤ (sCount most size p).2.1.length := by
  unfold sCount
  split
  · simp
  · rcases resC_form hb most size with ⟨e, he, h⟩ | ⟨n, m, _, _, h, _, _, h2, h3, _⟩
    · rw [h, if_neg he]; simp
    · rw [h, if_pos rfl]
      dsimp only
      have := h2 hs
      rw [List.length_drop, Int.toNat_natCast]
      have h5 := Int.mul_le_of_le_ediv hs this
      rw [Int.mul_comm]
      omega
theorem cntI_lin {t : Int} {p : Ps} (hb : isB p.1) : 0 ≤ (cntI t p).1 ∧ (cntI t p).1 ≤ 1048576 ∧ 2 * (cntI t p).1 ≤ (cntI t p).2.1.length := by
  have h1 := sCount_lin (most := 1048576) hb (show (0 : Int) < 2 by decide)
  have h2 := sCount_range (most := 1048576) (size := 2) hb (by decide)
  unfold cntI cntC
  dsimp only
  refine ⟨h2.1, h2.2, ?_⟩
  split <;> exact h1
theorem cntB_lin {p : Ps} (hb : isB p.1) : 0 ≤ (cntB p).1 ∧ (cntB p).1 ≤ 1048576 ∧ 3 * (cntB p).1 ≤ (cntB p).2.1.length := by
  have h1 := sCount_lin (most := 1048576) hb (show (0 : Int) < 3 by decide)
  have h2 := sCount_range (most := 1048576) (size := 3) hb (by decide)
  unfold cntB cntC
  dsimp only
  refine ⟨h2.1, h2.2, ?_⟩
  split <;> exact h1
/-- What an element may say. -/
def Lin (f : Int → Ps → Int × Ps) : Prop := ∀ t p, isB p.1 → 0 ≤ t → 0 ≤ (f t p).1 ∧ 2 * (f t p).1 ≤ p.1.length ∧ (f t p).2.1 <:+ p.1 ∧ ((f t p).2.2 = 0 → 2 * (f t p).1 + (f t p).2.1.length ≤ p.1.length)
theorem rep_lin {f : Int → Ps → Int × Ps} (h : Lin f) : ∀ n t p, isB p.1 → 0 ≤ t → 0 ≤ sumI (rep f addN n t p).1 ∧ 2 * sumI (rep f addN n t p).1 ≤ p.1.length
  | 0, t, p, _, _ => ⟨Int.le_refl _, by show 2 * sumI [] ≤ _; simp [sumI]⟩
  | n + 1, t, p, hb, ht => by
    by_cases hp : p.2 = 0
    · rw [rep_step hp]
      dsimp only
      obtain ⟨h1, h2, h3, h4⟩ := h t p hb ht
      have ih := rep_lin h n (addN t (f t p).1) (f t p).2 (fun x hx => hb x (h3.subset hx)) (by unfold addN; omega)
      rw [sumI_cons]
      by_cases he : (f t p).2.2 = 0
      · have := h4 he
        omega
      · rw [rep_err he]
        rw [show sumI [] = 0 from rfl]
        omega
    · rw [rep_err hp]
      exact ⟨Int.le_refl _, by show 2 * sumI [] ≤ _; simp [sumI]⟩
theorem encCode_len2 {regs : Int} {l : List Ins} (h : okCode regs l) : 2 * l.length ≤ (encCode l).length := encL_lenok (enc := fun _ => putInsB) (ok := fun _ => okIns regs) (nx := nxU) 2 (fun _ _ h => putIns_len2 h) () l h
theorem encMCode_len2 {regs slots : Int} {l : List Mac} (h : okMCode regs slots l) : 2 * l.length ≤ (encMCode l).length := encL_lenok (enc := fun _ => putMacB) (ok := okMacR regs slots) (nx := nxR) 2 (fun _ _ h => putMac_len2 h.1) 0 l h
theorem Lin_blk {regs n : Int} (hr : regs ≤ 1048576) (hn : n ≤ 1048576) : Lin (sBlkN regs n) := by
  intro t p hb ht
  obtain ⟨c1, c2, c3⟩ := cntI_lin (t := t) hb
  have hsu : (sBlkF regs n t p).2.1 <:+ p.1 := sBlkF_suf regs n t p
  have hcl := (cntI_suf t p).length_le
  refine ⟨c1, by show 2 * (cntI t p).1 ≤ _; omega, hsu, fun h0 => ?_⟩
  have h0' : (sBlkF regs n t p).2.2 = 0 := h0
  have hp : p.2 = 0 := Classical.byContradiction fun h9 => by rw [sBlkF_st h9 (by omega) (by omega)] at h0'; exact h9 h0'
  have hcode : (sCode regs (cntI t p).1 (cntI t p).2).2.2 = 0 := Classical.byContradiction fun h9 => by
    have h1 : (sTrm regs n (sCode regs (cntI t p).1 (cntI t p).2).2).2.2 = 0 := h0'
    rw [sTrm_st h9 (by omega) (by omega)] at h1
    exact h9 h1
  have hlen : (sCode regs (cntI t p).1 (cntI t p).2).1.length = (cntI t p).1.toNat := rep_full _ _ _ hcode
  obtain ⟨l, e⟩ := p
  obtain rfl : e = 0 := hp
  have hca := (Cod.blkF (sh := fun e => e ≠ 0) (by decide) (fun _ h => h) regs n t (by omega) (by omega) ht).ca l hb h0'
  obtain ⟨hok, hl⟩ := hca
  have hc : (sBlkF regs n t (l, 0)).1.code = (sCode regs (cntI t (l, 0)).1 (cntI t (l, 0)).2).1 := rfl
  have he := encCode_len2 hok.2.1
  rw [hc, hlen] at he
  have hll := congrArg List.length hl
  rw [List.length_append] at hll
  show 2 * (cntI t (l, 0)).1 + ((sBlkF regs n t (l, 0)).2.1.length : Int) ≤ (l.length : Int)
  unfold encB at hll
  rw [hc] at hll
  simp only [List.length_append] at hll
  omega
theorem Lin_mblk {regs slots n : Int} (hr : regs ≤ 1048576) (hn : n ≤ 1048576) : Lin (sMBlkN regs slots n) := by
  intro t p hb ht
  obtain ⟨c1, c2, c3⟩ := cntI_lin (t := t) hb
  have hsu : (sMBlkF regs slots n t p).2.1 <:+ p.1 := sMBlkF_suf regs slots n t p
  have hcl := (cntI_suf t p).length_le
  refine ⟨c1, by show 2 * (cntI t p).1 ≤ _; omega, hsu, fun h0 => ?_⟩
  have h0' : (sMBlkF regs slots n t p).2.2 = 0 := h0
  have hp : p.2 = 0 := Classical.byContradiction fun h9 => by rw [sMBlkF_st h9 (by omega) (by omega)] at h0'; exact h9 h0'
  have hcode : (sMCode regs slots (cntI t p).1 (cntI t p).2).2.2 = 0 := Classical.byContradiction fun h9 => by
    have h1 : (sTrm regs n (sMCode regs slots (cntI t p).1 (cntI t p).2).2).2.2 = 0 := h0'
    rw [sTrm_st h9 (by omega) (by omega)] at h1
    exact h9 h1
  have hlen : (sMCode regs slots (cntI t p).1 (cntI t p).2).1.length = (cntI t p).1.toNat := rep_full _ _ _ hcode
  obtain ⟨l, e⟩ := p
  obtain rfl : e = 0 := hp
  have hca := (Cod.mblkF (sh := fun e => e ≠ 0) (by decide) (fun _ h => h) regs slots n t (by omega) (by omega) ht).ca l hb h0'
  obtain ⟨hok, hl⟩ := hca
  have hc : (sMBlkF regs slots n t (l, 0)).1.code = (sMCode regs slots (cntI t (l, 0)).1 (cntI t (l, 0)).2).1 := rfl
  have he := encMCode_len2 hok.2.1
  rw [hc, hlen] at he
  have hll := congrArg List.length hl
  rw [List.length_append] at hll
  show 2 * (cntI t (l, 0)).1 + ((sMBlkF regs slots n t (l, 0)).2.1.length : Int) ≤ (l.length : Int)
  unfold encMB at hll
  rw [hc] at hll
  simp only [List.length_append] at hll
  omega
theorem sBlkW_suf (vregs regs slots t : Int) (p : Ps) : (sBlk vregs regs slots t p).2.1 <:+ p.1 := (rep_suf (fun s p => sPr_suf _ _ _ s p) _ _ _).trans (cntC_suf _ _ _ _ _)
theorem Lin_blkW {vregs regs slots : Int} (hv : 0 ≤ vregs ∧ vregs ≤ 1048576) (hr : regs ≤ 1048576) (hs : slots ≤ 1048576) : Lin (sBlkW vregs regs slots) := by
  intro t p hb ht
  obtain ⟨c1, c2, c3⟩ := cntI_lin (t := t) hb
  have hsu : (sBlk vregs regs slots t p).2.1 <:+ p.1 := sBlkW_suf vregs regs slots t p
  have hcl := (cntI_suf t p).length_le
  refine ⟨c1, by show 2 * (cntI t p).1 ≤ _; omega, hsu, fun h0 => ?_⟩
  have h0' : (sBlk vregs regs slots t p).2.2 = 0 := h0
  have hp : p.2 = 0 := Classical.byContradiction fun h9 => by rw [sBlk_st h9] at h0'; exact h9 h0'
  have hlen : (sBlk vregs regs slots t p).1.length = (cntI t p).1.toNat := rep_full (cntI t p).1.toNat ps0 (cntI t p).2 h0'
  obtain ⟨l, e⟩ := p
  obtain rfl : e = 0 := hp
  have hca := (Cod.blk (sh := fun e => e ≠ 0) (by decide) (fun _ h => h) (vregs := vregs) (regs := regs) (slots := slots) ⟨hv.1, by omega⟩ (by omega) (by omega) t ht).ca l hb h0'
  obtain ⟨hok, hl⟩ := hca
  have he := encL_len (enc := encPr) (nx := nxP) 2 encPr_len ps0 (sBlk vregs regs slots t (l, 0)).1
  rw [hlen] at he
  have hll := congrArg List.length hl
  rw [List.length_append] at hll
  show 2 * (cntI t (l, 0)).1 + ((sBlk vregs regs slots t (l, 0)).2.1.length : Int) ≤ (l.length : Int)
  unfold encBlk encPrs at hll
  simp only [List.length_append] at hll
  omega
/-! ### the parts -/
theorem sBytes_len (n : Int) (p : Ps) : (sBytes n p).1.length + (sBytes n p).2.1.length ≤ p.1.length := by
  unfold sBytes
  split
  · simp
  · split
    · simp
    · split
      · simp
      · simp only [List.length_take, List.length_drop]; omega
theorem sumL_cons (x : List Int) (l : List (List Int)) : sumL (x :: l) = x.length + sumL l := by unfold sumL; rw [List.map_cons, sumI_cons]
theorem dStep_len (id : Int) (p : Ps) : (dStep id p).1.length + (dStep id p).2.1.length ≤ p.1.length := by
  unfold dStep
  dsimp only
  refine Nat.le_trans (sBytes_len _ _) (Nat.le_trans (sCount_suf _ _ _).length_le ?_)
  split <;> exact (sByte_suf p).length_le
theorem dSplit_len : ∀ (ids : List Int) (p : Ps), 0 ≤ sumL (dSplit ids p) ∧ sumL (dSplit ids p) ≤ p.1.length
  | [], p => ⟨Int.le_refl _, by show sumL [] ≤ _; simp [sumL, sumI]⟩
  | id :: ids, p => by
    have h1 := dStep_len id p
    have ih := dSplit_len ids (dStep id p).2
    unfold dSplit
    split
    · exact ⟨Int.le_refl _, by show sumL [] ≤ _; simp [sumL, sumI]⟩
    · rw [sumL_cons]; omega
theorem dFn_lin {l : List Int} (hb : isB l) : (0 ≤ (dFn (l, 0)).1.1.blocks ∧ (dFn (l, 0)).1.1.blocks ≤ 1048576) ∧ 3 * (dFn (l, 0)).1.1.blocks ≤ l.length ∧ 0 ≤ sumI (dFn (l, 0)).1.2 ∧ 2 * sumI (dFn (l, 0)).1.2 ≤ l.length ∧ okShp (dFn (l, 0)).1.1 := by
  have hs := sHead_suf (l, 0)
  have hb2 : isB (sHead (l, 0)).2.1 := fun x hx => hb x (hs.subset hx)
  obtain ⟨c1, c2, c3⟩ := cntB_lin hb2
  have hcs : (cntB (sHead (l, 0)).2).2.1 <:+ (sHead (l, 0)).2.1 := cntC_suf _ _ _ _ _
  have hb3 : isB (cntB (sHead (l, 0)).2).2.1 := fun x hx => hb2 x (hcs.subset hx)
  have ha := sUint_range (most := 1048576) (p := (l, 0)) hb
  have hba : isB (sUint 1048576 (l, 0)).2.1 := fun x hx => hb x ((sUint_suf _ _).subset hx)
  have hr := sUint_range (most := 1048576) (p := (sUint 1048576 (l, 0)).2) hba
  have hrr : (sHead (l, 0)).1.2 = (sUint 1048576 (sUint 1048576 (l, 0)).2).1 := rfl
  have hl := rep_lin (Lin_blk (regs := (sHead (l, 0)).1.2) (n := (cntB (sHead (l, 0)).2).1) (by rw [hrr]; exact hr.2.2 (by decide)) c2) (cntB (sHead (l, 0)).2).1.toNat 0 (cntB (sHead (l, 0)).2).2 hb3 (Int.le_refl _)
  have h1 := hs.length_le
  have h2 := hcs.length_le
  dsimp only at h1
  refine ⟨⟨c1, c2⟩, ?_, hl.1, ?_, ⟨ha.1, ha.2.2 (by decide)⟩, ⟨hr.1, hr.2.2 (by decide)⟩, ⟨Int.le_refl _, show (0 : Int) ≤ 1048576 by decide⟩, ⟨c1, c2⟩⟩
  · show 3 * (cntB (sHead (l, 0)).2).1 ≤ _
    omega
  · have := hl.2
    show 2 * sumI (rep (sBlkN (sHead (l, 0)).1.2 (cntB (sHead (l, 0)).2).1) addN (cntB (sHead (l, 0)).2).1.toNat 0 (cntB (sHead (l, 0)).2).2).1 ≤ _
    omega
theorem dMFn_lin {l : List Int} (hb : isB l) : (0 ≤ (dMFn (l, 0)).1.1.blocks ∧ (dMFn (l, 0)).1.1.blocks ≤ 1048576) ∧ 3 * (dMFn (l, 0)).1.1.blocks ≤ l.length ∧ 0 ≤ sumI (dMFn (l, 0)).1.2 ∧ 2 * sumI (dMFn (l, 0)).1.2 ≤ l.length ∧ okShp (dMFn (l, 0)).1.1 := by
  have hs := sMHead_suf (l, 0)
  have hb2 : isB (sMHead (l, 0)).2.1 := fun x hx => hb x (hs.subset hx)
  obtain ⟨c1, c2, c3⟩ := cntB_lin hb2
  have hcs : (cntB (sMHead (l, 0)).2).2.1 <:+ (sMHead (l, 0)).2.1 := cntC_suf _ _ _ _ _
  have hb3 : isB (cntB (sMHead (l, 0)).2).2.1 := fun x hx => hb2 x (hcs.subset hx)
  have ha := sUint_range (most := 1048576) (p := (l, 0)) hb
  have hba : isB (sUint 1048576 (l, 0)).2.1 := fun x hx => hb x ((sUint_suf _ _).subset hx)
  have hr := sUint_range (most := 1048576) (p := (sUint 1048576 (l, 0)).2) hba
  have hbr : isB (sUint 1048576 (sUint 1048576 (l, 0)).2).2.1 := fun x hx => hba x ((sUint_suf _ _).subset hx)
  have hsl := sUint_range (most := 1048576) (p := (sUint 1048576 (sUint 1048576 (l, 0)).2).2) hbr
  have hrr : (sMHead (l, 0)).1.2.1 = (sUint 1048576 (sUint 1048576 (l, 0)).2).1 := rfl
  have hl := rep_lin (Lin_mblk (regs := (sMHead (l, 0)).1.2.1) (slots := (sMHead (l, 0)).1.2.2) (n := (cntB (sMHead (l, 0)).2).1) (by rw [hrr]; exact hr.2.2 (by decide)) c2) (cntB (sMHead (l, 0)).2).1.toNat 0 (cntB (sMHead (l, 0)).2).2 hb3 (Int.le_refl _)
  have h1 := hs.length_le
  have h2 := hcs.length_le
  dsimp only at h1
  refine ⟨⟨c1, c2⟩, ?_, hl.1, ?_, ⟨ha.1, ha.2.2 (by decide)⟩, ⟨hr.1, hr.2.2 (by decide)⟩, ⟨hsl.1, hsl.2.2 (by decide)⟩, ⟨c1, c2⟩⟩
  · show 3 * (cntB (sMHead (l, 0)).2).1 ≤ _
    omega
  · have := hl.2
    show 2 * sumI (rep (sMBlkN (sMHead (l, 0)).1.2.1 (sMHead (l, 0)).1.2.2 (cntB (sMHead (l, 0)).2).1) addN (cntB (sMHead (l, 0)).2).1.toNat 0 (cntB (sMHead (l, 0)).2).2).1 ≤ _
    omega
theorem dInv_lin {vregs regs slots n : Int} {l : List Int} (hb : isB l) (hv : 0 ≤ vregs ∧ vregs ≤ 1048576) (hr : regs ≤ 1048576) (hs : slots ≤ 1048576) : 0 ≤ sumI (dInv vregs regs slots n (l, 0)).1 ∧ 2 * sumI (dInv vregs regs slots n (l, 0)).1 ≤ l.length :=
  rep_lin (Lin_blkW hv hr hs) n.toNat 0 (l, 0) hb (Int.le_refl _)
end Go.Proofs.Ytkhajngpcgmpnaa.Cu
