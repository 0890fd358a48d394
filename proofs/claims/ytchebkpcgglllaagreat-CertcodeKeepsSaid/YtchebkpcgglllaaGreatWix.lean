/- Wix: Wi1, Wi2 in one text. -/
import Derived.Test.YtchebkpcgglllaaGreatNux
import Derived.Test.YtchebkpcgglllaaGreatSe1
namespace Go.Proofs.YtchebkpcgglllaaGreat.Cu
open Go Go.SX Go.Proofs.YtchebkpcgglllaaGreat.VT
set_option maxRecDepth 100000
set_option linter.unusedVariables false
set_option linter.unusedSimpArgs false

structure Pr where
  v : Int
  l : Int
deriving DecidableEq
def Pr.sv (x : Pr) : SV := .agg [.v (.int .i64 x.v), .v (.int .i64 x.l)]
def pr0 : Pr := ⟨0, 0⟩
/-- Where a pair is read: whether it is the first one, and the one ahead of it. -/
abbrev PS := Bool × Pr
/-- The difference of the registers. -/
def sDv (vregs : Int) (s : PS) (p : Ps) : Int × Ps := sNum (vregs - s.2.v) 9 p
def sDl (p : Ps) : Int × Ps := sNum 1099511627777 10 p
def mkPr (s : PS) (dv dl : Int) : Pr := ⟨s.2.v + dv, if s.1 = true ∨ dv ≠ 0 then dl else s.2.l + 1 + dl⟩
def sPr (vregs regs slots : Int) (s : PS) (p : Ps) : Pr × Ps :=
  let a := sDv vregs s p
  let d := sDl a.2
  if d.2.2 ≠ 0 then (pr0, d.2) else (mkPr s a.1 d.1, if inRange (mkPr s a.1 d.1).l regs slots then d.2 else sFail 10 d.2)
def nxP (s : PS) (x : Pr) : PS := (false, x)
theorem sNum_st {bound why : Int} {p : Ps} (h : p.2 ≠ 0) : (sNum bound why p).2.2 = p.2 := by
  unfold sNum
  rw [sUint_err h]
  split
  · rw [sFail_err h]
  · rfl
theorem sPr_suf (vregs regs slots : Int) (s : PS) (p : Ps) : (sPr vregs regs slots s p).2.1 <:+ p.1 := by
  unfold sPr
  dsimp only
  split
  · exact (sNum_suf _ _ _).trans (sNum_suf _ _ _)
  · split
    · exact (sNum_suf _ _ _).trans (sNum_suf _ _ _)
    · exact (sNum_suf _ _ _).trans (sNum_suf _ _ _)
theorem sPr_st {vregs regs slots : Int} {s : PS} {p : Ps} (h : p.2 ≠ 0) : (sPr vregs regs slots s p).2.2 = p.2 := by
  unfold sPr sDv sDl
  dsimp only
  have h1 := sNum_st (bound := vregs - s.2.v) (why := 9) h
  have h2 := sNum_st (bound := 1099511627777) (why := 10) (p := (sNum (vregs - s.2.v) 9 p).2) (by rw [h1]; exact h)
  rw [if_pos (by rw [h2, h1]; exact h), h2, h1]
def encPr (s : PS) (x : Pr) : List Int := pU (x.v - s.2.v) ++ (if s.1 = true ∨ x.v ≠ s.2.v then pU x.l else pU (x.l - s.2.l - 1))
/-- A state of the reader. -/
def goodS (vregs : Int) (s : PS) : Prop := 0 ≤ s.2.v ∧ s.2.v ≤ vregs ∧ 0 ≤ s.2.l
def okPr (vregs regs slots : Int) (s : PS) (x : Pr) : Prop := s.2.v ≤ x.v ∧ x.v < vregs ∧ inRange x.l regs slots ∧ (s.1 = false → x.v = s.2.v → s.2.l < x.l)
theorem Cod.pr_ {sh : Int → Prop} (h1 : sh 1) (hnz : ∀ e, sh e → e ≠ 0) {vregs regs slots : Int} (hv : vregs ≤ 1000000000) (hr : regs ≤ 1000000000) (hs : slots ≤ 1000000000) (s : PS) (hg : goodS vregs s) :
    Cod sh (sPr vregs regs slots s) (encPr s) (okPr vregs regs slots s) := by
  obtain ⟨g1, g2, g3⟩ := hg
  have hA := (Cod.num h1 hnz (vregs - s.2.v) 9 (by omega) (by decide)).seq (fun _ _ => Cod.num h1 hnz 1099511627777 10 (by decide) (by decide)) (fun _ p h => sNum_st h)
  have hB := hA.chk (fun p => (((sDv vregs s p).1, (sDl (sDv vregs s p).2).1), if (sDl (sDv vregs s p).2).2.2 ≠ 0 then (sDl (sDv vregs s p).2).2 else if inRange (mkPr s (sDv vregs s p).1 (sDl (sDv vregs s p).2).1).l regs slots then (sDl (sDv vregs s p).2).2 else sFail 10 (sDl (sDv vregs s p).2).2))
    (fun x => inRange (mkPr s x.1 x.2).l regs slots) ?_ ?_ ?_
  · refine hB.map _ _ _ (fun x => mkPr s x.1 x.2) (fun y => (y.v - s.2.v, if s.1 = true ∨ y.v ≠ s.2.v then y.l else y.l - s.2.l - 1)) ?_ ?_ ?_
    · intro p
      unfold sPr
      dsimp only
      split
      · exact ⟨rfl, fun h => absurd h (by assumption)⟩
      · exact ⟨rfl, fun _ => rfl⟩
    · intro y hy
      obtain ⟨y1, y2, y3, y4⟩ := hy
      have hl : 0 ≤ y.l ∧ y.l ≤ 2000000001 := by unfold inRange at y3; omega
      have hmk : mkPr s (y.v - s.2.v) (if s.1 = true ∨ y.v ≠ s.2.v then y.l else y.l - s.2.l - 1) = y := by
        obtain ⟨yv, yl⟩ := y
        unfold mkPr
        dsimp only at *
        congr 1
        · omega
        · by_cases hc : s.1 = true ∨ yv ≠ s.2.v
          · rw [if_pos hc, if_pos (by rcases hc with hc | hc; · exact .inl hc
                                      · exact .inr (by omega))]
          · rw [if_neg hc, if_neg (by rintro (h | h); · exact hc (.inl h)
                                      · exact hc (.inr (by omega)))]
            omega
      refine ⟨⟨⟨⟨by omega, by omega⟩, ?_⟩, ?_⟩, hmk, ?_⟩
      · dsimp only
        split
        · omega
        · rename_i hc
          have hc1 : s.1 = false := by cases hs1 : s.1 with
            | true => exact absurd (.inl hs1) hc
            | false => rfl
          have hc2 : y.v = s.2.v := Classical.byContradiction fun h => hc (.inr h)
          have := y4 hc1 hc2
          omega
      · dsimp only
        rw [hmk]
        exact y3
      · unfold encPr
        dsimp only
        split <;> rfl
    · rintro ⟨dv, dl⟩ ⟨⟨⟨x1, x2⟩, x3, x4⟩, x5⟩
      dsimp only at x1 x2 x3 x4 x5 ⊢
      refine ⟨⟨?_, ?_, x5, ?_⟩, ?_⟩
      · unfold mkPr; dsimp only; omega
      · unfold mkPr; dsimp only; omega
      · intro hf he
        unfold mkPr at he ⊢
        dsimp only at he ⊢
        rw [if_neg (by rintro (h | h); · rw [hf] at h; exact absurd h (by decide)
                       · omega)]
        omega
      · unfold encPr mkPr
        dsimp only
        rw [show s.2.v + dv - s.2.v = dv by omega]
        by_cases hc : s.1 = true ∨ dv ≠ 0
        · rw [if_pos hc, if_pos (by rcases hc with hc | hc; · exact .inl hc
                                    · exact .inr (by omega))]
        · rw [if_neg hc, if_neg (by rintro (h | h); · exact hc (.inl h)
                                    · exact hc (.inr (by omega)))]
          rw [show s.2.l + 1 + dl - s.2.l - 1 = dl by omega]
  · intro p hp
    dsimp only at hp ⊢
    exact congrArg Prod.snd (if_pos hp)
  · intro p hp hgd
    dsimp only at hp hgd ⊢
    rw [show sDl (sDv vregs s p).2 = sNum 1099511627777 10 (sNum (vregs - s.2.v) 9 p).2 from rfl, show sDv vregs s p = sNum (vregs - s.2.v) 9 p from rfl]
    rw [if_neg (by rw [hp]; simp), if_pos hgd]
  · intro p hp hgd
    dsimp only at hp hgd ⊢
    rw [show sDl (sDv vregs s p).2 = sNum 1099511627777 10 (sNum (vregs - s.2.v) 9 p).2 from rfl, show sDv vregs s p = sNum (vregs - s.2.v) 9 p from rfl]
    rw [if_neg (by rw [hp]; simp), if_neg hgd]
    exact sFail_ne (by decide)
/-! ### invariants -/
def ps0 : PS := (true, pr0)
def sPrs (vregs regs slots : Int) (n : Int) (p : Ps) : List Pr × Ps := rep (sPr vregs regs slots) nxP n.toNat ps0 p
/-- The invariant of a block; t pairs are ahead of it. -/
def sBlk (vregs regs slots : Int) (t : Int) (p : Ps) : List Pr × Ps :=
  let n := cntC 1048576 2 6 (fun n => decide (t + n ≤ 1048576)) p
  sPrs vregs regs slots n.1 n.2
def nxT (t : Int) (l : List Pr) : Int := t + l.length
def encPrs (l : List Pr) : List Int := encL encPr nxP ps0 l
def encBlk (t : Int) (l : List Pr) : List Int := putB l.length ++ encPrs l
def okPrs (vregs regs slots : Int) (l : List Pr) : Prop := okL (okPr vregs regs slots) nxP ps0 l
def okBlk (vregs regs slots : Int) (t : Int) (l : List Pr) : Prop := t + l.length ≤ 1048576 ∧ okPrs vregs regs slots l
theorem pU_pos (n : Int) : 1 ≤ (pU n).length := vput_len_pos 9 _
theorem encPr_len (s : PS) (x : Pr) : 2 ≤ (encPr s x).length := by
  have h1 := pU_pos (x.v - s.2.v)
  have h2 := pU_pos x.l
  have h3 := pU_pos (x.l - s.2.l - 1)
  unfold encPr
  split <;> simp only [List.length_append] <;> omega
theorem sPrs_st {vregs regs slots n : Int} {p : Ps} (h : p.2 ≠ 0) : (sPrs vregs regs slots n p).2.2 = p.2 := by unfold sPrs; rw [rep_err h]
theorem sBlk_st {vregs regs slots t : Int} {p : Ps} (h : p.2 ≠ 0) : (sBlk vregs regs slots t p).2.2 = p.2 := by
  unfold sBlk
  dsimp only
  have h1 : (sCount 1048576 2 p).2.2 = p.2 := by rw [sCount_err h]
  have h2 := cntC_of (why := 6) (good := fun n => decide (t + n ≤ 1048576)) (by rw [h1]; exact h)
  rw [sPrs_st (by rw [h2, h1]; exact h), h2, h1]
theorem nxP_good {vregs regs slots : Int} {s : PS} {x : Pr} (hg : goodS vregs s) (h : okPr vregs regs slots s x) : goodS vregs (nxP s x) := by
  obtain ⟨g1, g2, g3⟩ := hg
  obtain ⟨h1, h2, h3, _⟩ := h
  unfold nxP goodS
  dsimp only
  exact ⟨by omega, by omega, h3.1⟩
theorem ps0_good {vregs : Int} (h : 0 ≤ vregs) : goodS vregs ps0 := ⟨Int.le_refl _, h, Int.le_refl _⟩
theorem Cod.prs {sh : Int → Prop} (h1 : sh 1) (hnz : ∀ e, sh e → e ≠ 0) {vregs regs slots : Int} (hv : 0 ≤ vregs ∧ vregs ≤ 1000000000) (hr : regs ≤ 1000000000) (hs : slots ≤ 1000000000) (n : Nat) :
    Cod sh (Cu.rep (sPr vregs regs slots) nxP n ps0) encPrs (fun l => l.length = n ∧ okPrs vregs regs slots l) :=
  Cod.rep hnz (goodS vregs) (fun s hg => Cod.pr_ h1 hnz hv.2 hr hs s hg) (fun s p h => sPr_st h) (fun s x hg h => nxP_good hg h) n ps0 (ps0_good hv.1)
theorem Cod.blk {sh : Int → Prop} (h1 : sh 1) (hnz : ∀ e, sh e → e ≠ 0) {vregs regs slots : Int} (hv : 0 ≤ vregs ∧ vregs ≤ 1000000000) (hr : regs ≤ 1000000000) (hs : slots ≤ 1000000000) (t : Int) (ht : 0 ≤ t) :
    Cod sh (sBlk vregs regs slots t) (encBlk t) (okBlk vregs regs slots t) := by
  have hC := Cod.cnt (β := List Pr) h1 hnz (most := 1048576) (size := 2) (why := 6) (by decide) (by decide) (by decide) (fun n => decide (t + n ≤ 1048576))
    (g := sPrs vregs regs slots) (enc' := fun _ => encPrs) (ok' := fun n l => l.length = n.toNat ∧ 0 ≤ n ∧ okPrs vregs regs slots l)
    (fun n hn _ _ => (Cod.prs h1 hnz hv hr hs n.toNat).congr (fun p => rfl) (fun _ _ => rfl) (fun x => ⟨fun h => ⟨h.1, h.2.2⟩, fun h => ⟨h.1, hn, h.2⟩⟩)) (fun n p h => sPrs_st h)
    (fun n x h => by have := encL_len (enc := encPr) (nx := nxP) 2 encPr_len ps0 x; unfold encPrs; omega)
  refine hC.map _ _ _ (fun x => x.2) (fun l => ((l.length : Int), l)) (fun p => ⟨rfl, fun _ => rfl⟩) ?_ ?_
  · intro y hy
    refine ⟨⟨⟨by omega, ?_, decide_eq_true hy.1⟩, by simp, by omega, hy.2⟩, rfl, ?_⟩
    · have := hy.1; dsimp only; omega
    · unfold encBlk; simp
  · rintro ⟨n, l⟩ ⟨⟨x1, x2, x3⟩, x4, _, x5⟩
    dsimp only at *
    have hn : n = (l.length : Int) := by omega
    subst hn
    refine ⟨⟨of_decide_eq_true x3, x5⟩, ?_⟩
    unfold encBlk; simp
/-- All invariants. -/
def sInv (vregs regs slots : Int) (n : Int) (p : Ps) : List (List Pr) × Ps := rep (sBlk vregs regs slots) nxT n.toNat 0 p
def encInv (l : List (List Pr)) : List Int := encL encBlk nxT 0 l
def okInv (vregs regs slots : Int) (l : List (List Pr)) : Prop := okL (okBlk vregs regs slots) nxT 0 l
theorem Cod.inv {sh : Int → Prop} (h1 : sh 1) (hnz : ∀ e, sh e → e ≠ 0) {vregs regs slots : Int} (hv : 0 ≤ vregs ∧ vregs ≤ 1000000000) (hr : regs ≤ 1000000000) (hs : slots ≤ 1000000000) (n : Nat) :
    Cod sh (sInv vregs regs slots n) encInv (fun l => l.length = n ∧ okInv vregs regs slots l) := by
  have h := Cod.rep (nx := nxT) hnz (fun t : Int => 0 ≤ t) (fun t ht => Cod.blk h1 hnz hv hr hs t ht) (fun s p h => sBlk_st h) (fun t x ht _ => by unfold nxT; omega) n 0 (Int.le_refl _)
  exact h.congr (fun p => by unfold sInv; rw [Int.toNat_natCast]) (fun _ _ => rfl) (fun _ => Iff.rfl)
end Go.Proofs.YtchebkpcgglllaaGreat.Cu

namespace Go.Proofs.YtchebkpcgglllaaGreat.Cu
open Go Go.SX Go.Proofs.YtchebkpcgglllaaGreat.VT
set_option maxRecDepth 100000
set_option linter.unusedVariables false
set_option linter.unusedSimpArgs false

def prO (q : Pr) : Ob := .cells 55 [.v (.int .i64 q.v), .v (.int .i64 q.l)]
def blO (b : Bool) : Ob := .cells 4 [.v (.bool b)]
/-- What the reader holds, but for the cursor. -/
def decL (vregs regs slots : Int) (s : PS) : List Ob := [.cells 77 [.p 0 0], .cells 3 [.v (.int .i64 vregs)], .cells 3 [.v (.int .i64 regs)], .cells 3 [.v (.int .i64 slots)], prO s.2, blO s.1]
def decF : SV := .f (.func 124) [] [.p 5 0, .p 1 0, .p 2 0, .p 6 0, .p 3 0, .p 4 0]
theorem decoder_fn {G : Gh} {A : Option Addr} {bs : List Int} {c : Nat} {p : Ps} (vregs regs slots : Int) :
    Ct Tryz.prog 78 [.p 0 0, .v (.int .i64 vregs), .v (.int .i64 regs), .v (.int .i64 slots)] [curL A bs c p] G fun sv H' G' => sv = decF ∧ H' = curL A bs c p :: decL vregs regs slots ps0 ∧ G' = G := by
  refine fn_of follows [] Tryz.func78 rfl rfl fun E hE => ?_
  repeat' ((fail_if_success with_reducible refine Stop.mk ?_);(conv=>whnf);with_reducible refine stop ?_)
  all_goals refine Stop.mk ?_
  exact fin_all ⟨rfl, rfl, rfl⟩
theorem mkPr_t (q : Pr) (dv dl : Int) : mkPr (true, q) dv dl = ⟨q.v + dv, dl⟩ := by unfold mkPr; rw [if_pos (.inl rfl)]
theorem mkPr_1 (q : Pr) (dv dl : Int) (h : dv ≠ 0) : mkPr (false, q) dv dl = ⟨q.v + dv, dl⟩ := by unfold mkPr; rw [if_pos (.inr h)]
theorem mkPr_2 (q : Pr) (dv dl : Int) (h : dv = 0) : mkPr (false, q) dv dl = ⟨q.v + dv, q.l + (dl + 1)⟩ := by
  unfold mkPr
  rw [if_neg (by rintro (h1 | h1)
                 · exact absurd (show false = true from h1) (by decide)
                 · exact h1 h)]
  congr 1
  dsimp only
  omega
/-- The state after a pair. -/
def stP (vregs : Int) (s : PS) (p : Ps) (x : Pr) : PS := if (sDl (sDv vregs s p).2).2.2 ≠ 0 then s else (false, x)
set_option maxHeartbeats 8000000 in
theorem dec1_fn {G : Gh} {A : Option Addr} {bs : List Int} {c : Nat} {p : Ps} (vregs regs slots : Int) (s : PS) (hC : CurOK G A c bs p) (hv : vregs ≤ 1000000000) (hg : goodS vregs s) (hl : s.2.l ≤ 4000000000) :
    Ct Tryz.prog 124 [.p 5 0, .p 1 0, .p 2 0, .p 6 0, .p 3 0, .p 4 0] (curL A bs c p :: decL vregs regs slots s) G fun sv H' G' =>
      sv = (sPr vregs regs slots s p).1.sv ∧ H' = curL A bs c (sPr vregs regs slots s p).2 :: decL vregs regs slots (stP vregs s p (sPr vregs regs slots s p).1) ∧ G' = G := by
  obtain ⟨first, q⟩ := s
  obtain ⟨g1, g2, g3⟩ := hg
  dsimp only at g1 g2 g3 hl
  have hr1 := sUint_range (most := maxU) hC.isb
  have hcu := hC.next (sUint_suf maxU p)
  obtain ⟨p1, hp1⟩ : ∃ q', q' = (sDv vregs (first, q) p).2 := ⟨_, rfl⟩
  have hc1 : CurOK G A c bs p1 := hp1 ▸ hC.next (sNum_suf _ _ _)
  have hr2 := sUint_range (most := maxU) hc1.isb
  have hcu2 := hc1.next (sUint_suf maxU p1)
  obtain ⟨p2, hp2⟩ : ∃ q', q' = (sDl p1).2 := ⟨_, rfl⟩
  have hc2 : CurOK G A c bs p2 := hp2 ▸ hc1.next (sNum_suf _ _ _)
  have hw : IntKind.i64.wrap (vregs - q.v) = vregs - q.v := i64_in (by omega) (by omega)
  have hw2 : IntKind.u64.wrap (vregs - q.v) = vregs - q.v := u64_in (by omega) (by omega)
  have hst1 : p1.2 = 0 → (sDv vregs (first, q) p).1 = (sUint maxU p).1 ∧ (sUint maxU p).1 < vregs - q.v := by
    intro h0
    rw [hp1] at h0
    unfold sDv sNum at h0 ⊢
    dsimp only at h0 ⊢
    split at h0
    · exact absurd h0 (sFail_ne (by decide))
    · rw [if_neg (by assumption)]; exact ⟨rfl, by omega⟩
  have hst2 : p2.2 = 0 → p1.2 = 0 ∧ (sDl p1).1 = (sUint maxU p1).1 ∧ (sUint maxU p1).1 ≤ 1099511627776 := by
    intro h0
    have h01 : p1.2 = 0 := by
      rcases Decidable.em (p1.2 = 0) with h1 | h1
      · exact h1
      · rw [hp2] at h0; unfold sDl at h0; rw [sNum_st h1] at h0; exact h0
    refine ⟨h01, ?_⟩
    rw [hp2] at h0
    unfold sDl sNum at h0 ⊢
    split at h0
    · exact absurd h0 (sFail_ne (by decide))
    · rw [if_neg (by assumption)]; exact ⟨rfl, by omega⟩
  have hres0 : p2.2 ≠ 0 → sPr vregs regs slots (first, q) p = (pr0, p2) ∧ stP vregs (first, q) p pr0 = (first, q) := by
    intro h0
    unfold sPr stP
    dsimp only
    rw [← hp1, ← hp2]
    exact ⟨if_pos h0, if_pos h0⟩
  have hres1 : p2.2 = 0 → ∀ x, mkPr (first, q) (sUint maxU p).1 (sUint maxU p1).1 = x → sPr vregs regs slots (first, q) p = (x, if inRange x.l regs slots then p2 else sFail 10 p2) ∧ stP vregs (first, q) p x = (false, x) := by
    intro h0 x hx
    obtain ⟨h01, h02, _⟩ := hst2 h0
    obtain ⟨h03, _⟩ := hst1 h01
    subst hx
    unfold sPr stP
    dsimp only
    rw [← hp1, ← hp2]
    refine ⟨?_, if_neg (by rw [h0]; simp)⟩
    rw [if_neg (by rw [h0]; simp), h02, h03]
  unfold decL prO blO
  dsimp only
  refine fn_of follows [] Tryz.func124 rfl rfl fun E hE => ?_
  repeat' ((fail_if_success with_reducible refine Stop.mk ?_);(conv=>whnf);with_reducible refine stop ?_)
  all_goals refine Stop.mk ?_
  refine call_fn [0] (puint_fn maxU hC) rfl ⟨rfl, trivial⟩ (by decide) ?_
  rintro sv H' G' ⟨rfl, rfl, rfl⟩ -
  refine ⟨Nat.le_of_ble_eq_true rfl, ?_⟩
  repeat' ((fail_if_success with_reducible refine Stop.mk ?_);(conv=>whnf);with_reducible first|refine br_d (fun h=>?_) fun h=>?_|refine stop ?_)
  all_goals refine Stop.mk ?_
  all_goals rw [hw, hw2] at h
  all_goals try
    refine call_fn [0] (pfail_fn 9 (p := (sUint maxU p).2)) rfl ⟨rfl, trivial⟩ (by decide) ?_
    rintro sv H' G' ⟨rfl, rfl, rfl⟩ -
    refine ⟨Nat.le_of_ble_eq_true rfl, ?_⟩
    have hp1' : sFail 9 (sUint maxU p).2 = p1 := by rw [hp1]; unfold sDv sNum; rw [if_pos (by exact h)]
    have hd1 : p1.2 ≠ 0 := hp1' ▸ sFail_ne (by decide)
    rw [hp1']
    clear h
    repeat' ((fail_if_success with_reducible refine Stop.mk ?_);(conv=>whnf);with_reducible refine stop ?_)
    all_goals refine Stop.mk ?_
  all_goals try
    have hp1' : (sUint maxU p).2 = p1 := by rw [hp1]; unfold sDv sNum; rw [if_neg (by exact h)]
    rw [hp1']
    clear h
  all_goals
    clear hp1'
    refine call_fn [0] (puint_fn maxU hc1) rfl ⟨rfl, trivial⟩ (by decide) ?_
    rintro sv H' G' ⟨rfl, rfl, rfl⟩ -
    refine ⟨Nat.le_of_ble_eq_true rfl, ?_⟩
    repeat' ((fail_if_success with_reducible refine Stop.mk ?_);(conv=>whnf);with_reducible first|refine br_d (fun h=>?_) fun h=>?_|refine stop ?_)
    all_goals refine Stop.mk ?_
  all_goals try
    refine call_fn [0] (pfail_fn 10 (p := (sUint maxU p1).2)) rfl ⟨rfl, trivial⟩ (by decide) ?_
    rintro sv H' G' ⟨rfl, rfl, rfl⟩ -
    refine ⟨Nat.le_of_ble_eq_true rfl, ?_⟩
    have hp2' : sFail 10 (sUint maxU p1).2 = p2 := by rw [hp2]; unfold sDl sNum; rw [if_pos (by omega)]
    have hd2 : p2.2 ≠ 0 := hp2' ▸ sFail_ne (by decide)
    rw [hp2']
    clear h
    repeat' ((fail_if_success with_reducible refine Stop.mk ?_);(conv=>whnf);with_reducible refine stop ?_)
    all_goals refine Stop.mk ?_
  all_goals try
    have hp2' : (sUint maxU p1).2 = p2 := by rw [hp2]; unfold sDl sNum; rw [if_neg (by omega)]
    rw [hp2']
    clear h
  all_goals
    clear hp2'
    refine call_fn [0] (perr_fn (p := p2)) rfl ⟨rfl, trivial⟩ (by decide) ?_
    rintro sv H' G' ⟨rfl, rfl, rfl⟩ -
    refine ⟨Nat.le_of_ble_eq_true rfl, ?_⟩
    repeat' ((fail_if_success with_reducible refine Stop.mk ?_);(conv=>whnf);with_reducible first|refine br_n (fun h=>?_) fun h=>?_|refine stop ?_)
    all_goals refine Stop.mk ?_
  all_goals try
    obtain ⟨e1, e2⟩ := hres0 (by assumption)
    refine fin_id hE 7 rfl rfl rfl rfl ⟨?_, ?_, rfl⟩
    · rw [e1]; rfl
    · rw [e1]; dsimp only; rw [e2]; rfl
  all_goals try exact absurd (hst2 (by assumption)).1 (by assumption)
  all_goals try exact absurd (by assumption) hd2
  have h00 : p2.2 = 0 := by assumption
  obtain ⟨h01, h02, h03⟩ := hst2 h00
  obtain ⟨h04, h05⟩ := hst1 h01
  replace hres1 := hres1 h00
  clear hres0 hst1 hst2 h02 h04 hp1 hp2 hc1 hcu hcu2 hC
  generalize (sUint maxU p).1 = dv at *
  generalize (sUint maxU p1).1 = dl at *
  have hw3 : IntKind.i64.wrap dl = dl := i64_in (by omega) (by omega)
  have hw4 : IntKind.i64.wrap dv = dv := i64_in (by omega) (by omega)
  have hw5 : IntKind.i64.wrap (dl + 1) = dl + 1 := i64_in (by omega) (by omega)
  have hw6 : IntKind.i64.wrap (q.l + (dl + 1)) = q.l + (dl + 1) := i64_in (by omega) (by omega)
  have hw7 : IntKind.i64.wrap (q.v + dv) = q.v + dv := i64_in (by omega) (by omega)
  cases first
  all_goals
    repeat' ((fail_if_success with_reducible refine Stop.mk ?_);(conv=>whnf);with_reducible first|refine br_t ?_|refine br_f ?_|refine br_d (fun h=>?_) fun h=>?_|refine stop ?_)
    all_goals refine Stop.mk ?_
  all_goals try rw [hw3]
  all_goals try rw [hw4]
  all_goals try rw [hw5]
  all_goals try rw [hw6]
  all_goals try rw [hw7]
  all_goals
    refine call_fn [] (inRange_fn _ _ regs slots (by unfold in64; omega)) rfl trivial (by decide) ?_
    rintro sv H' G' ⟨rfl, rfl, rfl⟩ -
    refine ⟨Nat.le_of_ble_eq_true rfl, ?_⟩
    repeat' ((fail_if_success with_reducible refine Stop.mk ?_);(conv=>whnf);with_reducible first|refine br_not ?_|refine br_d (fun h=>?_) fun h=>?_|refine stop ?_)
    all_goals refine Stop.mk ?_
  all_goals try
    refine call_fn [0] (pfail_fn 10 (p := p2)) rfl ⟨rfl, trivial⟩ (by decide) ?_
    rintro sv H' G' ⟨rfl, rfl, rfl⟩ -
    refine ⟨Nat.le_of_ble_eq_true rfl, ?_⟩
    repeat' ((fail_if_success with_reducible refine Stop.mk ?_);(conv=>whnf);with_reducible refine stop ?_)
    all_goals refine Stop.mk ?_
  all_goals
    refine fin_id hE 7 rfl rfl rfl rfl ?_
    have e0 := hres1 _ rfl
    first
      | rw [mkPr_t] at e0
      | (have hnz : dv ≠ 0 := by omega
         rw [mkPr_1 q dv dl hnz] at e0)
      | (have hnz : dv = 0 := by omega
         rw [mkPr_2 q dv dl hnz] at e0)
    obtain ⟨e1, e2⟩ := e0
    dsimp only at e1 e2
    first
      | rw [if_pos (by assumption)] at e1
      | rw [if_neg (by assumption)] at e1
    rw [e1]
    dsimp only
    rw [e2]
    exact ⟨rfl, rfl, rfl⟩
end Go.Proofs.YtchebkpcgglllaaGreat.Cu
