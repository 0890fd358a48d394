/- Invariants: what is read. -/
import Derived.Test.YtglelcgllodhoaaWi2
import Derived.Test.YtglelcgllodhoaaSXg
namespace Go.Proofs.Ytglelcgllodhoaa.Cu
open Go Go.SX Go.Proofs.Ytglelcgllodhoaa.VT
set_option maxRecDepth 100000
set_option linter.unusedVariables false
set_option linter.unusedSimpArgs false

def prv (x : Pr) : List Value := [.int .i64 x.v, .int .i64 x.l]
def kPr : Kd Pr where
  sz := 2
  R _ x cs := cs = prv x ∧ in64 x.v ∧ in64 x.l
  len h := by rw [h.1]; rfl
  one h := by rw [h.1]; intro v hv; simp [prv] at hv; rcases hv with rfl | rfl <;> rfl
  mono _ h := h
def kPrs : Kd (List Pr) := kS kPr
/-- What a reader of invariants comes to. -/
def InvPost (l : List (List Pr)) (sv : SV) (G' : Gh) : Prop := ∃ A c, sv = .v (.slice A l.length c) ∧ kPrs.S G' A c l
theorem sNum_rng2 {bound why : Int} {p : Ps} (hb : isB p.1) : 0 ≤ (sNum bound why p).1 ∧ ((sNum bound why p).1 < bound ∨ (sNum bound why p).1 = 0) := by
  have h := sUint_range (most := maxU) hb
  unfold sNum
  split
  · exact ⟨Int.le_refl _, .inr rfl⟩
  · exact ⟨h.1, .inl (by omega)⟩
/-- A pair that was read without an error. -/
theorem sPr_rng {vregs regs slots : Int} {s : PS} {p : Ps} (hb : isB p.1) (hv : vregs ≤ 1000000000) (hr : regs ≤ 1000000000) (hs : slots ≤ 1000000000) (hg : goodS vregs s) (hl : s.2.l ≤ 3000000000) :
    (in64 (sPr vregs regs slots s p).1.v ∧ in64 (sPr vregs regs slots s p).1.l) ∧ ((sPr vregs regs slots s p).2.2 = 0 → (goodS vregs (false, (sPr vregs regs slots s p).1) ∧ (sPr vregs regs slots s p).1.l ≤ 3000000000) ∧ stP vregs s p (sPr vregs regs slots s p).1 = nxP s (sPr vregs regs slots s p).1) := by
  obtain ⟨g1, g2, g3⟩ := hg
  have h1 := sNum_rng2 (bound := vregs - s.2.v) (why := 9) hb
  have hb2 : isB (sNum (vregs - s.2.v) 9 p).2.1 := fun x hx => hb x ((sNum_suf _ _ _).subset hx)
  have h2 := sNum_rng2 (bound := 1099511627777) (why := 10) hb2
  unfold sPr stP sDv sDl
  dsimp only
  generalize sNum (vregs - s.2.v) 9 p = a at *
  generalize sNum 1099511627777 10 a.2 = d at *
  by_cases hd : d.2.2 = 0
  · rw [if_neg (by rw [hd]; simp)]
    dsimp only
    have hm : (mkPr s a.1 d.1).v = s.2.v + a.1 ∧ 0 ≤ (mkPr s a.1 d.1).l ∧ (mkPr s a.1 d.1).l ≤ 3000000000 + 1 + 1099511627777 := by
      unfold mkPr
      dsimp only
      refine ⟨rfl, ?_⟩
      split <;> omega
    refine ⟨⟨by unfold in64; omega, by unfold in64; omega⟩, ?_⟩
    split
    · rename_i hin
      have hin2 : (mkPr s a.1 d.1).l ≤ 3000000000 := by unfold inRange at hin; omega
      intro _
      refine ⟨⟨⟨?_, ?_, hin.1⟩, hin2⟩, ?_⟩
      · dsimp only; omega
      · dsimp only; omega
      · rw [if_neg (by rw [hd]; simp)]; rfl
    · intro h; exact absurd h (sFail_ne (by decide))
  · rw [if_pos hd]
    exact ⟨⟨by unfold in64 pr0; simp, by unfold in64 pr0; simp⟩, fun h => absurd h hd⟩
theorem ps0_l : ps0.2.l ≤ 3000000000 := by unfold ps0 pr0; decide
theorem sBlk_suf (vregs regs slots t : Int) (p : Ps) : (sBlk vregs regs slots t p).2.1 <:+ p.1 := (rep_suf (fun s p => sPr_suf _ _ _ s p) _ _ _).trans (cntC_suf _ _ _ _ _)
end Go.Proofs.Ytglelcgllodhoaa.Cu
