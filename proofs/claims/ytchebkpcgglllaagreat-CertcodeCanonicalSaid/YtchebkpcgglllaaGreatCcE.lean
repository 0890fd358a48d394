/- Certificates: the errors of decoding. -/
import Derived.Test.YtchebkpcgglllaaGreatCcy
namespace Go.Proofs.YtchebkpcgglllaaGreat.Cu
open Go Go.SX Go.Proofs.YtchebkpcgglllaaGreat.VT
set_option maxRecDepth 100000
set_option linter.unusedVariables false
set_option linter.unusedSimpArgs false
/-- No error, or one that is listed. -/
def eR (e : Int) : Prop := e = 0 ∨ (1 ≤ e ∧ e ≤ 16 ∧ e ≠ 12 ∧ e ≠ 13)
theorem eR_fail {why : Int} (hw : eR why) {p : Ps} (h : eR p.2) : eR (sFail why p).2 := by
  unfold sFail failE
  dsimp only
  split
  · exact hw
  · exact h
theorem eR_byte {p : Ps} (h : eR p.2) : eR (sByte p).2.2 := by
  unfold sByte
  split
  · exact h
  · split
    · exact .inr (by decide)
    · exact .inl rfl
theorem vdec_e : ∀ (l : List Int) (k : Nat), (vdec k l).2.2 = 0 ∨ (vdec k l).2.2 = 1 ∨ (vdec k l).2.2 = 3
  | [], k => .inr (.inl rfl)
  | c :: r, k => by
    have ih := vdec_e r (k + 1)
    unfold vdec
    split
    · exact .inr (.inr rfl)
    · split
      · exact .inl rfl
      · split
        · exact .inl rfl
        · exact ih
theorem eR_vdec (l : List Int) (k : Nat) : eR (vdec k l).2.2 := by
  unfold eR
  rcases vdec_e l k with h | h | h <;> rw [h] <;> decide
theorem eR_uint (most : Int) {p : Ps} (h : eR p.2) : eR (sUint most p).2.2 := by
  unfold sUint
  split
  · exact h
  · split
    · exact .inl rfl
    · show eR (whyU most (vdec 0 p.1))
      unfold whyU
      split
      · exact .inr (by decide)
      · exact eR_vdec _ _
theorem eR_int {p : Ps} (h : eR p.2) : eR (sInt p).2.2 := eR_uint _ h
theorem eR_count {most size : Int} (hm : 0 ≤ most) (hz : 0 ≤ size) {p : Ps} (h : eR p.2) : eR (sCount most size p).2.2 := by
  unfold sCount
  split
  · exact h
  · split
    · exact .inl rfl
    · show eR (resC most size p.1).2.2
      unfold resC
      rw [if_neg (by omega)]
      split
      · exact .inl rfl
      · show eR (whyC most size p.1.length (vdec 0 p.1))
        unfold whyC
        split
        · exact eR_vdec _ _
        · split
          · exact .inr (by decide)
          · split
            · exact .inr (by decide)
            · exact .inl rfl
theorem eR_num {bound why : Int} (hw : eR why) {p : Ps} (h : eR p.2) : eR (sNum bound why p).2.2 := by
  unfold sNum
  split
  · exact eR_fail hw (eR_uint _ h)
  · exact eR_uint _ h
theorem eR_cntC {most size why : Int} {good : Int → Bool} (hm : 0 ≤ most) (hz : 0 ≤ size) (hw : eR why) {p : Ps} (h : eR p.2) : eR (cntC most size why good p).2.2 := by
  unfold cntC
  dsimp only
  split
  · exact eR_count hm hz h
  · exact eR_fail hw (eR_count hm hz h)
theorem eR_optN (u : Bool) {bound why : Int} (hw : eR why) {p : Ps} (h : eR p.2) : eR (optN u bound why p).2.2 := by
  cases u
  · exact h
  · exact eR_num hw h
theorem eR_optI (u : Bool) {p : Ps} (h : eR p.2) : eR (optI u p).2.2 := by
  cases u
  · exact h
  · exact eR_int h
theorem eR_first {good : Int → Bool} {why : Int} (hw : eR why) {p : Ps} (h : eR p.2) : eR (sFirst good why p).2.2 := by
  unfold sFirst
  dsimp only
  split
  · exact eR_byte h
  · exact eR_fail hw (eR_byte h)
theorem e9 : eR 9 := .inr (by decide)
theorem e10 : eR 10 := .inr (by decide)
theorem e11 : eR 11 := .inr (by decide)
theorem eR_flds (op regs : Int) {p : Ps} (h : eR p.2) : eR (sFlds op regs p).2.2 := eR_optI _ (eR_optN _ e9 (eR_optN _ e9 (eR_optN _ e9 h)))
theorem eR_ins (regs : Int) {p : Ps} (h : eR p.2) : eR (sIns regs p).2.2 := eR_flds _ _ (eR_first (.inr (by decide)) h)
theorem eR_place (regs slots : Int) {p : Ps} (h : eR p.2) : eR (sPlace regs slots p).2.2 := by
  unfold sPlace
  dsimp only
  split
  · exact eR_fail e10 (eR_uint _ h)
  · exact eR_uint _ h
theorem eR_move (regs slots : Int) {p : Ps} (h : eR p.2) : eR (sMove regs slots p).2.2 := by
  unfold sMove
  dsimp only
  split
  · exact eR_fail e10 (eR_place _ _ (eR_place _ _ h))
  · exact eR_place _ _ (eR_place _ _ h)
theorem eR_mac (regs slots : Int) {p : Ps} (h : eR p.2) : eR (sMac regs slots p).2.2 := by
  have h1 : eR (sFirst machOp 8 p).2.2 := eR_first (.inr (by decide)) h
  unfold sMac
  dsimp only
  split
  · exact eR_move _ _ h1
  · exact eR_flds _ _ h1
theorem eR_trm (regs blocks : Int) {p : Ps} (h : eR p.2) : eR (sTrm regs blocks p).2.2 := eR_optN _ e11 (eR_optN _ e11 (eR_optN _ e9 (eR_first (.inr (by decide)) h)))
theorem eR_rep {α σ : Type} {f : σ → Ps → α × Ps} {nx : σ → α → σ} (hf : ∀ s p, eR p.2 → eR (f s p).2.2) : ∀ n s p, eR p.2 → eR (rep f nx n s p).2.2
  | 0, s, p, h => h
  | n + 1, s, p, h => by
    unfold rep
    split
    · exact h
    · exact eR_rep hf n _ _ (hf s p h)
theorem eR_macR (regs slots run : Int) {p : Ps} (h : eR p.2) : eR (sMacR regs slots run p).2.2 := by
  unfold sMacR
  dsimp only
  split
  · exact eR_fail (.inr (by decide)) (eR_mac _ _ h)
  · exact eR_mac _ _ h
theorem eR_cntI (t : Int) {p : Ps} (h : eR p.2) : eR (cntI t p).2.2 := eR_cntC (by decide) (by decide) (.inr (by decide)) h
theorem eR_cntB {p : Ps} (h : eR p.2) : eR (cntB p).2.2 := eR_cntC (by decide) (by decide) (.inr (by decide)) h
theorem eR_blkF (regs n t : Int) {p : Ps} (h : eR p.2) : eR (sBlkF regs n t p).2.2 := eR_trm _ _ (eR_rep (fun _ p h => eR_ins _ h) _ _ _ (eR_cntI t h))
theorem eR_mblkF (regs slots n t : Int) {p : Ps} (h : eR p.2) : eR (sMBlkF regs slots n t p).2.2 := eR_trm _ _ (eR_rep (fun _ p h => eR_macR _ _ _ h) _ _ _ (eR_cntI t h))
theorem eR_head {p : Ps} (h : eR p.2) : eR (sHead p).2.2 := by
  unfold sHead
  dsimp only
  split
  · exact eR_fail e9 (eR_uint _ (eR_uint _ h))
  · exact eR_uint _ (eR_uint _ h)
theorem eR_mhead {p : Ps} (h : eR p.2) : eR (sMHead p).2.2 := by
  unfold sMHead
  dsimp only
  split
  · exact eR_fail e10 (eR_uint _ (eR_uint _ (eR_uint _ h)))
  · exact eR_uint _ (eR_uint _ (eR_uint _ h))
theorem eR_fn {p : Ps} (h : eR p.2) : eR (sFnR p).2.2 := eR_rep (fun _ _ h => eR_blkF _ _ _ h) _ _ _ (eR_cntB (eR_head h))
theorem eR_mfn {p : Ps} (h : eR p.2) : eR (sMFnR p).2.2 := eR_rep (fun _ _ h => eR_mblkF _ _ _ _ h) _ _ _ (eR_cntB (eR_mhead h))
theorem eR_pr (vregs regs slots : Int) (s : PS) {p : Ps} (h : eR p.2) : eR (sPr vregs regs slots s p).2.2 := by
  have h1 : eR (sDl (sDv vregs s p).2).2.2 := eR_num e10 (eR_num e9 h)
  unfold sPr
  dsimp only
  split
  · exact h1
  · dsimp only
    split
    · exact h1
    · exact eR_fail e10 h1
theorem eR_inv (vregs regs slots n : Int) {p : Ps} (h : eR p.2) : eR (sInv vregs regs slots n p).2.2 :=
  eR_rep (fun t p h => eR_rep (fun s p h => eR_pr _ _ _ s h) _ _ _ (eR_cntC (by decide) (by decide) (.inr (by decide)) h)) _ _ _ h
theorem eR_end {p : Ps} (h : eR p.2) : eR (sEnd p).2 := by
  unfold sEnd
  dsimp only
  split
  · exact .inr (by decide)
  · exact h
theorem eR_step {id : Int} {p : Ps} (hb : isB p.1) (hl : p.1.length ≤ 1000000000) (h : eR p.2) : eR (stepS id p).2.2 := by
  obtain ⟨l0, e⟩ := p
  dsimp only at hb hl h
  by_cases he : e = 0
  case neg => rw [(step_err (id := id) (p := (l0, e)) he).2.2]; exact h
  subst he
  cases l0 with
  | nil => rw [stepS_nil]; exact .inr (by decide)
  | cons x l =>
    by_cases hx : x = id
    case neg => rw [stepS_ne hx]; exact (show eR 7 from .inr (by decide))
    subst hx
    have hbl : isB l := fun y hy => hb y (List.mem_cons_of_mem _ hy)
    simp only [List.length_cons] at hl
    rcases vdec_form hbl with ⟨e, he, hv⟩ | ⟨n, m, hv, _⟩
    · have he' : (vdec 0 l).2.2 ≠ 0 := by rw [hv]; dsimp only; omega
      rw [stepS_get hbl he']
      exact eR_vdec _ _
    · rcases Nat.lt_or_ge (l.drop m).length n with hn | hn
      · rw [stepS_short hbl hv hn]; exact (show eR 1 from .inr (by decide))
      · have hll : (l.drop m).length ≤ l.length := by rw [List.length_drop]; omega
        rw [stepS_ok hbl hv hn (by omega)]; exact .inl rfl
theorem eR_split : ∀ (ids : List Int) (p : Ps), isB p.1 → p.1.length ≤ 1000000000 → eR p.2 → eR (splitS ids p).2.2
  | [], p, _, _, h => h
  | id :: ids, p, hb, hl, h => by
    have hs := stepS_suf id p
    exact eR_split ids (stepS id p).2 (fun y hy => hb y (hs.subset hy)) (Nat.le_trans hs.length_le hl) (eR_step hb hl h)
/-- What is not decoded is rejected with a listed error. -/
theorem cErr_range {b : List Int} (hb : isB b) (hl : b.length ≤ 1000000) (h : cErr b ≠ 0) : 1 ≤ cErr b ∧ cErr b ≤ 16 ∧ cErr b ≠ 12 ∧ cErr b ≠ 13 := by
  have key : eR (cErr b) := by
    unfold cErr
    split
    · unfold eStart eR
      split
      · decide
      split
      · decide
      split
      · decide
      split
      · decide
      · decide
    split
    · exact eR_end (eR_split _ _ (isB_drop hb 3) (by rw [List.length_drop]; omega) (.inl rfl))
    split
    · exact eR_end (eR_fn (.inl rfl))
    split
    · exact eR_end (eR_mfn (.inl rfl))
    split
    · exact .inr (by decide)
    · exact eR_end (eR_inv _ _ _ _ (.inl rfl))
  rcases key with h9 | h9
  · exact absurd h9 h
  · exact h9
end Go.Proofs.YtchebkpcgglllaaGreat.Cu
