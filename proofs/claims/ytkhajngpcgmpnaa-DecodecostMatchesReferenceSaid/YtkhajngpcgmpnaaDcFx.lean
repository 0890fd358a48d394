/- DcFx: DcE, DcF, DcG in one text. -/
import Derived.Test.YtkhajngpcgmpnaaDcB
import Derived.Test.YtkhajngpcgmpnaaDcD
import Derived.Test.YtkhajngpcgmpnaaFuN
import Derived.Test.YtkhajngpcgmpnaaWiC
import Derived.Test.YtkhajngpcgmpnaaSXP
import Derived.Test.YtkhajngpcgmpnaaDc8
namespace Go.Proofs.Ytkhajngpcgmpnaa.Cu
open Go Go.SX Go.Proofs.Ytkhajngpcgmpnaa.VT
set_option maxRecDepth 100000
set_option linter.unusedVariables false
set_option linter.unusedSimpArgs false

/-- Two readers that leave the same. -/
theorem rep_same {σ α β : Type} {f : σ → Ps → α × Ps} {g : σ → Ps → β × Ps} {nf : σ → α → σ} {ng : σ → β → σ} (good : σ → Ps → Prop) (h : ∀ s p, good s p → (f s p).2 = (g s p).2 ∧ ((f s p).2.2 = 0 → nf s (f s p).1 = ng s (g s p).1 ∧ good (nf s (f s p).1) (f s p).2)) :
    ∀ n s p, good s p → (rep f nf n s p).2 = (rep g ng n s p).2
  | 0, s, p, _ => rfl
  | n + 1, s, p, hg => by
    by_cases hp : p.2 = 0
    · rw [rep_step hp, rep_step hp]
      dsimp only
      obtain ⟨h1, h2⟩ := h s p hg
      by_cases he : (f s p).2.2 = 0
      · obtain ⟨h3, h4⟩ := h2 he
        rw [rep_same good h n _ _ h4, h3, h1]
      · rw [rep_err he, rep_err (by rw [← h1]; exact he)]
        exact h1
    · rw [rep_err hp, rep_err hp]
theorem dBlks_same {regs n : Int} {p : Ps} (hb : isB p.1) (hr : regs ≤ 1048576) (hn : n ≤ 1048576) : (dBlks regs n p).2 = (sBlks regs n p).2 := by
  refine rep_same (f := sBlkN regs n) (g := sBlkF regs n) (nf := addN) (ng := nxB) (fun t p => isB p.1 ∧ 0 ≤ t) (fun t p hg => ⟨rfl, fun h0 => ?_⟩) n.toNat 0 p ⟨hb, Int.le_refl 0⟩
  have h0' : (sBlkF regs n t p).2.2 = 0 := h0
  have hc := cntI_lin (t := t) hg.1
  have hcode : (sCode regs (cntI t p).1 (cntI t p).2).2.2 = 0 := Classical.byContradiction fun h9 => by
    have h1 : (sTrm regs n (sCode regs (cntI t p).1 (cntI t p).2).2).2.2 = 0 := h0'
    rw [sTrm_st h9 (by omega) (by omega)] at h1
    exact h9 h1
  have hlen : (sCode regs (cntI t p).1 (cntI t p).2).1.length = (cntI t p).1.toNat := rep_full _ _ _ hcode
  refine ⟨?_, isB_sub hg.1 (sBlkF_suf regs n t p), ?_⟩
  · show t + (cntI t p).1 = t + ((sCode regs (cntI t p).1 (cntI t p).2).1.length : Int)
    omega
  · show 0 ≤ t + (cntI t p).1
    have := hg.2
    omega
theorem dMBlks_same {regs slots n : Int} {p : Ps} (hb : isB p.1) (hr : regs ≤ 1048576) (hn : n ≤ 1048576) : (dMBlks regs slots n p).2 = (sMBlks regs slots n p).2 := by
  refine rep_same (f := sMBlkN regs slots n) (g := sMBlkF regs slots n) (nf := addN) (ng := nxMB) (fun t p => isB p.1 ∧ 0 ≤ t) (fun t p hg => ⟨rfl, fun h0 => ?_⟩) n.toNat 0 p ⟨hb, Int.le_refl 0⟩
  have h0' : (sMBlkF regs slots n t p).2.2 = 0 := h0
  have hc := cntI_lin (t := t) hg.1
  have hcode : (sMCode regs slots (cntI t p).1 (cntI t p).2).2.2 = 0 := Classical.byContradiction fun h9 => by
    have h1 : (sTrm regs n (sMCode regs slots (cntI t p).1 (cntI t p).2).2).2.2 = 0 := h0'
    rw [sTrm_st h9 (by omega) (by omega)] at h1
    exact h9 h1
  have hlen : (sMCode regs slots (cntI t p).1 (cntI t p).2).1.length = (cntI t p).1.toNat := rep_full _ _ _ hcode
  refine ⟨?_, isB_sub hg.1 (sMBlkF_suf regs slots n t p), ?_⟩
  · show t + (cntI t p).1 = t + ((sMCode regs slots (cntI t p).1 (cntI t p).2).1.length : Int)
    omega
  · show 0 ≤ t + (cntI t p).1
    have := hg.2
    omega
/-- What the reference's function is to the cost's. -/
theorem dFn_same {l : List Int} (hb : isB l) : (dFn (l, 0)).2 = (sFnR (l, 0)).2 ∧ ((dFn (l, 0)).2.2 = 0 → (sFnR (l, 0)).1.args = (dFn (l, 0)).1.1.args ∧ (sFnR (l, 0)).1.regs = (dFn (l, 0)).1.1.regs ∧ ((sFnR (l, 0)).1.blocks.length : Int) = (dFn (l, 0)).1.1.blocks) := by
  have hs := sHead_suf (l, 0)
  have hb2 : isB (sHead (l, 0)).2.1 := isB_sub hb hs
  obtain ⟨c1, c2, c3⟩ := cntB_lin hb2
  have hb3 : isB (cntB (sHead (l, 0)).2).2.1 := isB_sub hb2 (cntC_suf _ _ _ _ _)
  have hba : isB (sUint 1048576 (l, 0)).2.1 := isB_sub hb (sUint_suf _ _)
  have hr := sUint_range (most := 1048576) (p := (sUint 1048576 (l, 0)).2) hba
  have hsame := dBlks_same (regs := (sHead (l, 0)).1.2) (n := (cntB (sHead (l, 0)).2).1) (p := (cntB (sHead (l, 0)).2).2) hb3 (hr.2.2 (by decide)) c2
  refine ⟨hsame, fun h0 => ?_⟩
  have h1 : (sBlks (sHead (l, 0)).1.2 (cntB (sHead (l, 0)).2).1 (cntB (sHead (l, 0)).2).2).2.2 = 0 := by rw [← hsame]; exact h0
  have hfn : (sFnR (l, 0)).1 = ⟨(sHead (l, 0)).1.1, (sHead (l, 0)).1.2, (sBlks (sHead (l, 0)).1.2 (cntB (sHead (l, 0)).2).1 (cntB (sHead (l, 0)).2).2).1⟩ := if_pos h1
  rw [hfn]
  have hlen := rep_full _ _ _ h1
  refine ⟨rfl, rfl, ?_⟩
  show ((sBlks (sHead (l, 0)).1.2 (cntB (sHead (l, 0)).2).1 (cntB (sHead (l, 0)).2).2).1.length : Int) = (cntB (sHead (l, 0)).2).1
  have hlen' : (sBlks (sHead (l, 0)).1.2 (cntB (sHead (l, 0)).2).1 (cntB (sHead (l, 0)).2).2).1.length = (cntB (sHead (l, 0)).2).1.toNat := hlen
  omega
theorem dMFn_same {l : List Int} (hb : isB l) : (dMFn (l, 0)).2 = (sMFnR (l, 0)).2 ∧ ((dMFn (l, 0)).2.2 = 0 → (sMFnR (l, 0)).1.args = (dMFn (l, 0)).1.1.args ∧ (sMFnR (l, 0)).1.regs = (dMFn (l, 0)).1.1.regs ∧ (sMFnR (l, 0)).1.slots = (dMFn (l, 0)).1.1.slots ∧ ((sMFnR (l, 0)).1.blocks.length : Int) = (dMFn (l, 0)).1.1.blocks) := by
  have hs := sMHead_suf (l, 0)
  have hb2 : isB (sMHead (l, 0)).2.1 := isB_sub hb hs
  obtain ⟨c1, c2, c3⟩ := cntB_lin hb2
  have hb3 : isB (cntB (sMHead (l, 0)).2).2.1 := isB_sub hb2 (cntC_suf _ _ _ _ _)
  have hba : isB (sUint 1048576 (l, 0)).2.1 := isB_sub hb (sUint_suf _ _)
  have hr := sUint_range (most := 1048576) (p := (sUint 1048576 (l, 0)).2) hba
  have hsame := dMBlks_same (regs := (sMHead (l, 0)).1.2.1) (slots := (sMHead (l, 0)).1.2.2) (n := (cntB (sMHead (l, 0)).2).1) (p := (cntB (sMHead (l, 0)).2).2) hb3 (hr.2.2 (by decide)) c2
  refine ⟨hsame, fun h0 => ?_⟩
  have h1 : (sMBlks (sMHead (l, 0)).1.2.1 (sMHead (l, 0)).1.2.2 (cntB (sMHead (l, 0)).2).1 (cntB (sMHead (l, 0)).2).2).2.2 = 0 := by rw [← hsame]; exact h0
  have hfn : (sMFnR (l, 0)).1 = ⟨(sMHead (l, 0)).1.1, (sMHead (l, 0)).1.2.1, (sMHead (l, 0)).1.2.2, (sMBlks (sMHead (l, 0)).1.2.1 (sMHead (l, 0)).1.2.2 (cntB (sMHead (l, 0)).2).1 (cntB (sMHead (l, 0)).2).2).1⟩ := if_pos h1
  rw [hfn]
  have hlen' : (sMBlks (sMHead (l, 0)).1.2.1 (sMHead (l, 0)).1.2.2 (cntB (sMHead (l, 0)).2).1 (cntB (sMHead (l, 0)).2).2).1.length = (cntB (sMHead (l, 0)).2).1.toNat := rep_full _ _ _ h1
  refine ⟨rfl, rfl, rfl, ?_⟩
  show ((sMBlks (sMHead (l, 0)).1.2.1 (sMHead (l, 0)).1.2.2 (cntB (sMHead (l, 0)).2).1 (cntB (sMHead (l, 0)).2).2).1.length : Int) = (cntB (sMHead (l, 0)).2).1
  omega
theorem cntB_bad {p : Ps} (h : p.2 ≠ 0) : (cntB p).1 = 0 ∧ (cntB p).2.2 ≠ 0 :=
  ⟨by unfold cntB cntC; rw [sCount_err h], by rw [cntB_st h]; exact h⟩
theorem dFn_bad {p : Ps} (h : (sHead p).2.2 ≠ 0) : (dFn p).2.2 ≠ 0 := by
  obtain ⟨h1, h2⟩ := cntB_bad h
  have e : (dFn p).2 = (dBlks (sHead p).1.2 (cntB (sHead p).2).1 (cntB (sHead p).2).2).2 := rfl
  rw [e, h1]
  exact h2
theorem dMFn_bad {p : Ps} (h : (sMHead p).2.2 ≠ 0) : (dMFn p).2.2 ≠ 0 := by
  obtain ⟨h1, h2⟩ := cntB_bad h
  have e : (dMFn p).2 = (dMBlks (sMHead p).1.2.1 (sMHead p).1.2.2 (cntB (sMHead p).2).1 (cntB (sMHead p).2).2).2 := rfl
  rw [e, h1]
  exact h2
theorem sBlkW_bad {vregs regs slots t : Int} {p : Ps} (h : (cntI t p).2.2 ≠ 0) : (sBlkW vregs regs slots t p).2.2 ≠ 0 := by
  have e : (sBlkW vregs regs slots t p).2 = (sPrs vregs regs slots (cntI t p).1 (cntI t p).2).2 := rfl
  rw [e, sPrs_st h]
  exact h
/-- One invariant, read on its own. -/
theorem sInv_one {vregs regs slots t : Int} {p : Ps} (hp : p.2 = 0) (hb : isB p.1) (ht : 0 ≤ t) (h : (sCount 1048576 2 p).2.2 = 0) (hle : t + (sCount 1048576 2 p).1 ≤ 1048576) : (sInv vregs regs slots 1 p).2 = (sBlk vregs regs slots t p).2 := by
  have hc := sCount_range (most := 1048576) (size := 2) hb (by decide)
  have h1 : sInv vregs regs slots 1 p = ([(sBlk vregs regs slots 0 p).1], (sBlk vregs regs slots 0 p).2) := by
    show rep (sBlk vregs regs slots) nxT (0 + 1) 0 p = _
    rw [rep_step hp]
    rfl
  rw [h1]
  have e0 : cntC 1048576 2 6 (fun n => decide (0 + n ≤ 1048576)) p = sCount 1048576 2 p := by
    unfold cntC
    rw [if_pos (decide_eq_true (by omega))]
  have e1 : cntC 1048576 2 6 (fun n => decide (t + n ≤ 1048576)) p = sCount 1048576 2 p := by
    unfold cntC
    rw [if_pos (decide_eq_true hle)]
  unfold sBlk
  dsimp only
  rw [e0, e1]
theorem cs3 {G : Gh} {X Y Z : List Int} {vals : List Value} (h : kBs.Cs G [X, Y, Z] vals) : ∃ A0 c0 A1 c1 A2 c2, vals = [.slice A0 X.length c0, .slice A1 Y.length c1, .slice A2 Z.length c2] ∧ SlB G A0 c0 X ∧ SlB G A1 c1 Y ∧ SlB G A2 c2 Z ∧ isB X ∧ isB Y ∧ isB Z := by
  obtain ⟨css, h1, rfl⟩ := h
  match css, h1 with
  | [a, b, c], h1 =>
    obtain ⟨h2, h3, h4, _⟩ := h1
    obtain ⟨A0, c0, rfl, s0, b0⟩ := kBs_R h2
    obtain ⟨A1, c1, rfl, s1, b1⟩ := kBs_R h3
    obtain ⟨A2, c2, rfl, s2, b2⟩ := kBs_R h4
    exact ⟨A0, c0, A1, c1, A2, c2, rfl, s0, s1, s2, b0, b1, b2⟩
end Go.Proofs.Ytkhajngpcgmpnaa.Cu

namespace Go.Proofs.Ytkhajngpcgmpnaa.Cu
open Go Go.SX Go.Proofs.Ytkhajngpcgmpnaa.VT
set_option maxRecDepth 100000
set_option linter.unusedVariables false
set_option linter.unusedSimpArgs false

theorem sEnd_bad {p : Ps} (h : p.2 ≠ 0 ∨ 0 < p.1.length) : (sEnd p).2 ≠ 0 := by
  by_cases hp : p.2 = 0
  · have h1 : 0 < p.1.length := by rcases h with h | h; · exact absurd hp h
                                   · exact h
    unfold sEnd sLeft
    rw [if_pos hp, if_pos (by omega)]
    show (2 : Int) ≠ 0
    decide
  · rw [sEnd_err hp]; exact hp
theorem sEnd_good {p : Ps} (h : p.2 = 0) (h1 : p.1.length = 0) : (sEnd p).2 = 0 := by
  unfold sEnd sLeft
  rw [if_pos h, if_neg (by omega)]
  exact h
set_option maxHeartbeats 8000000 in
theorem rof_fn {G : Gh} {A : Option Addr} {b : List Int} {c : Nat} (hbb : isB b) (hb : SlB G A c b) (h2 : b.length ≤ 1000000) :
    Ct Try.prog 10 [.v (.slice A b.length c)] [] G fun sv H' G' => sv = (dOf b).sv ∧ H' = [] := by
  refine fn_of follows [] Try.func10 rfl rfl fun E hE => ?_
  repeat' ((fail_if_success with_reducible refine Stop.mk ?_); (conv => whnf); with_reducible first | refine br_t ?_ | refine br_f ?_ | refine br_nn ?_ | refine br_ns ?_ | refine br_not ?_ | refine br_d (fun h => ?_) (fun h => ?_) | refine br_e (fun h => ?_) (fun h => ?_) | refine br_n (fun h => ?_) (fun h => ?_) | refine drw_fast (by kernel_rfl) ?_ | refine chk (by kernel_rfl) ?_ | refine stop ?_)
  all_goals refine Stop.mk ?_
  · have h3 : ¬ b.take 3 = [82, 67, 1] := fun h9 => by
      have := congrArg List.length h9
      rw [List.length_take] at this
      simp only [List.length_cons, List.length_nil] at this
      omega
    exact fin_id hE 0 rfl rfl rfl rfl ⟨by unfold dOf; rw [if_neg h3]; rfl, rfl⟩
  obtain ⟨x0, x1, x2, d, rfl⟩ : ∃ x0 x1 x2 d, b = x0 :: x1 :: x2 :: d := by
    match b, h with
    | [], h => simp at h
    | [_], h => simp at h
    | [_, _], h => simp at h
    | x0 :: x1 :: x2 :: d, _ => exact ⟨x0, x1, x2, d, rfl⟩
  have hl3 : (x0 :: x1 :: x2 :: d).length = d.length + 3 := rfl
  have hcap := hb.cap
  have htop := hb.top
  have htk : (x0 :: x1 :: x2 :: d).take 3 = [x0, x1, x2] := rfl
  refine ⟨⟨by omega, by omega⟩, _, hb, fun ad had => ?_⟩
  repeat' ((fail_if_success with_reducible refine Stop.mk ?_); (conv => whnf); with_reducible first | refine br_t ?_ | refine br_f ?_ | refine br_nn ?_ | refine br_ns ?_ | refine br_not ?_ | refine br_d (fun h => ?_) (fun h => ?_) | refine br_e (fun h => ?_) (fun h => ?_) | refine br_n (fun h => ?_) (fun h => ?_) | refine drw_fast (by kernel_rfl) ?_ | refine chk (by kernel_rfl) ?_ | refine stop ?_)
  all_goals refine Stop.mk ?_
  refine ⟨_, el1 had (by simp), ?_⟩
  rw [show (x0 :: x1 :: x2 :: d).getD (Int.toNat 0) 0 = x0 from rfl]
  repeat' ((fail_if_success with_reducible refine Stop.mk ?_); (conv => whnf); with_reducible first | refine br_t ?_ | refine br_f ?_ | refine br_nn ?_ | refine br_ns ?_ | refine br_not ?_ | refine br_d (fun h => ?_) (fun h => ?_) | refine br_e (fun h => ?_) (fun h => ?_) | refine br_n (fun h => ?_) (fun h => ?_) | refine drw_fast (by kernel_rfl) ?_ | refine chk (by kernel_rfl) ?_ | refine stop ?_)
  all_goals refine Stop.mk ?_
  rotate_left
  · have h4 : ¬ [x0, x1, x2] = [82, 67, 1] := by simp; omega
    exact fin_id hE 0 rfl rfl rfl rfl ⟨by unfold dOf; rw [htk, if_neg h4]; rfl, rfl⟩
  clear had
  refine ⟨⟨by omega, by omega⟩, _, hb, fun ad had => ?_⟩
  repeat' ((fail_if_success with_reducible refine Stop.mk ?_); (conv => whnf); with_reducible first | refine br_t ?_ | refine br_f ?_ | refine br_nn ?_ | refine br_ns ?_ | refine br_not ?_ | refine br_d (fun h => ?_) (fun h => ?_) | refine br_e (fun h => ?_) (fun h => ?_) | refine br_n (fun h => ?_) (fun h => ?_) | refine drw_fast (by kernel_rfl) ?_ | refine chk (by kernel_rfl) ?_ | refine stop ?_)
  all_goals refine Stop.mk ?_
  refine ⟨_, el1 had (by simp), ?_⟩
  rw [show (x0 :: x1 :: x2 :: d).getD (Int.toNat 1) 0 = x1 from rfl]
  repeat' ((fail_if_success with_reducible refine Stop.mk ?_); (conv => whnf); with_reducible first | refine br_t ?_ | refine br_f ?_ | refine br_nn ?_ | refine br_ns ?_ | refine br_not ?_ | refine br_d (fun h => ?_) (fun h => ?_) | refine br_e (fun h => ?_) (fun h => ?_) | refine br_n (fun h => ?_) (fun h => ?_) | refine drw_fast (by kernel_rfl) ?_ | refine chk (by kernel_rfl) ?_ | refine stop ?_)
  all_goals refine Stop.mk ?_
  rotate_left
  · have h4 : ¬ [x0, x1, x2] = [82, 67, 1] := by simp; omega
    exact fin_id hE 0 rfl rfl rfl rfl ⟨by unfold dOf; rw [htk, if_neg h4]; rfl, rfl⟩
  clear had
  refine ⟨⟨by omega, by omega⟩, _, hb, fun ad had => ?_⟩
  repeat' ((fail_if_success with_reducible refine Stop.mk ?_); (conv => whnf); with_reducible first | refine br_t ?_ | refine br_f ?_ | refine br_nn ?_ | refine br_ns ?_ | refine br_not ?_ | refine br_d (fun h => ?_) (fun h => ?_) | refine br_e (fun h => ?_) (fun h => ?_) | refine br_n (fun h => ?_) (fun h => ?_) | refine drw_fast (by kernel_rfl) ?_ | refine chk (by kernel_rfl) ?_ | refine stop ?_)
  all_goals refine Stop.mk ?_
  refine ⟨_, el1 had (by simp), ?_⟩
  rw [show (x0 :: x1 :: x2 :: d).getD (Int.toNat 2) 0 = x2 from rfl]
  repeat' ((fail_if_success with_reducible refine Stop.mk ?_); (conv => whnf); with_reducible first | refine br_t ?_ | refine br_f ?_ | refine br_nn ?_ | refine br_ns ?_ | refine br_not ?_ | refine br_d (fun h => ?_) (fun h => ?_) | refine br_e (fun h => ?_) (fun h => ?_) | refine br_n (fun h => ?_) (fun h => ?_) | refine drw_fast (by kernel_rfl) ?_ | refine chk (by kernel_rfl) ?_ | refine stop ?_)
  all_goals refine Stop.mk ?_
  rotate_left
  · have h4 : ¬ [x0, x1, x2] = [82, 67, 1] := by simp; omega
    exact fin_id hE 0 rfl rfl rfl rfl ⟨by unfold dOf; rw [htk, if_neg h4]; rfl, rfl⟩
  clear had
  have hdo : dOf (x0 :: x1 :: x2 :: d) = dBody d := by
    unfold dOf
    rw [if_pos (by rw [htk]; simp; omega)]
    rfl
  rw [hdo]
  have hbd : isB d := fun y hy => hbb y (by simp [hy])
  have hdm : d.length ≤ 1000000 := by omega
  have hsum := dSplit_len [1, 2, 3] (d, 0)
  dsimp only at hsum
  refine ⟨⟨by omega, by omega⟩, fun A2 hA2 => ?_⟩
  have hs2 : SlB _ A2 (c - 3) d := slB_drop hb 3 (by omega) hA2
  rw [show (x0 :: x1 :: x2 :: d).length - Int.toNat 3 = d.length from rfl, show c - Int.toNat 3 = c - 3 from rfl]
  repeat' ((fail_if_success with_reducible refine Stop.mk ?_); (conv => whnf); with_reducible first | refine br_t ?_ | refine br_f ?_ | refine br_nn ?_ | refine br_ns ?_ | refine br_not ?_ | refine br_d (fun h => ?_) (fun h => ?_) | refine br_e (fun h => ?_) (fun h => ?_) | refine br_n (fun h => ?_) (fun h => ?_) | refine drw_fast (by kernel_rfl) ?_ | refine chk (by kernel_rfl) ?_ | refine stop ?_)
  all_goals refine Stop.mk ?_
  refine call_fn [] (rlengths_fn hbd hs2 hdm) rfl trivial (by decide) ?_
  rintro sv H' G' ⟨rfl, rfl, rfl⟩ -
  refine ⟨Nat.le_of_ble_eq_true rfl, ?_⟩
  obtain ⟨L, hL⟩ : ∃ L, L = sumL (dSplit [1, 2, 3] (d, 0)) := ⟨_, rfl⟩
  rw [← hL]
  clear hs2 hA2
  repeat' ((fail_if_success with_reducible refine Stop.mk ?_); (conv => whnf); with_reducible first | refine br_t ?_ | refine br_f ?_ | refine br_nn ?_ | refine br_ns ?_ | refine br_not ?_ | refine br_d (fun h => ?_) (fun h => ?_) | refine br_e (fun h => ?_) (fun h => ?_) | refine br_n (fun h => ?_) (fun h => ?_) | refine drw_fast (by kernel_rfl) ?_ | refine chk (by kernel_rfl) ?_ | refine stop ?_)
  all_goals refine Stop.mk ?_
  refine ⟨⟨by omega, by omega⟩, fun A3 hA3 => ?_⟩
  have hs2 : SlB _ A3 (c - 3) d := slB_drop hb 3 (by omega) hA3
  rw [show (x0 :: x1 :: x2 :: d).length - Int.toNat 3 = d.length from rfl, show c - Int.toNat 3 = c - 3 from rfl]
  repeat' ((fail_if_success with_reducible refine Stop.mk ?_); (conv => whnf); with_reducible first | refine br_t ?_ | refine br_f ?_ | refine br_nn ?_ | refine br_ns ?_ | refine br_not ?_ | refine br_d (fun h => ?_) (fun h => ?_) | refine br_e (fun h => ?_) (fun h => ?_) | refine br_n (fun h => ?_) (fun h => ?_) | refine drw_fast (by kernel_rfl) ?_ | refine chk (by kernel_rfl) ?_ | refine stop ?_)
  all_goals refine Stop.mk ?_
  refine call_fz 2 rfl (by simp [Value.oneCell']) (enters_of Try.func26 rfl rfl) fun Az cz Gz hgz hsz => ?_
  (conv => whnf)
  replace hs2 := Sl.to hgz hs2
  refine call_fn [] (rsplit_fn _ A3 Az (c - 3) cz d [1, 2, 3] hbd hs2 (kB_of [1, 2, 3] hsz rfl rfl rfl (by decide)) (by decide) (by omega)) rfl trivial (by decide) ?_
  intro sv H' G' hp hg
  clear hg hgz hs2 hsz hb hA3
  refine ⟨Nat.le_of_ble_eq_true rfl, ?_⟩
  unfold SplitPost at hp
  have hdb : dBody d = if (splitR [1, 2, 3] d).2 ≠ 0 then ⟨0, 0, 0, L⟩ else if (sEnd (dFirst d).2).2 ≠ 0 then ⟨(dFirst d).1.1.blocks, sumI (dFirst d).1.2, 0, L⟩ else if (sEnd (dSecond d).2).2 ≠ 0 ∨ (dFirst d).1.1.blocks ≠ (dSecond d).1.1.blocks ∨ (dFirst d).1.1.args ≠ (dSecond d).1.1.args then ⟨(dFirst d).1.1.blocks + (dSecond d).1.1.blocks, sumI (dFirst d).1.2 + sumI (dSecond d).1.2, 0, L⟩ else ⟨(dFirst d).1.1.blocks + (dSecond d).1.1.blocks, sumI (dFirst d).1.2 + sumI (dSecond d).1.2, sumI (dInv (dFirst d).1.1.regs (dSecond d).1.1.regs (dSecond d).1.1.slots (dFirst d).1.1.blocks ((splitS [1, 2, 3] (d, 0)).1.getD 2 [], 0)).1, L⟩ := by rw [hL]; rfl
  rw [← hL] at hsum
  rw [hdb]
  by_cases hz : (splitR [1, 2, 3] d).2 = 0
  rotate_left
  · rw [if_neg hz] at hp
    have hp1 := hp.1
    have hp2 := hp.2
    subst hp1 hp2
    rw [if_pos hz]
    repeat' ((fail_if_success with_reducible refine Stop.mk ?_); (conv => whnf); with_reducible first | refine br_t ?_ | refine br_f ?_ | refine br_nn ?_ | refine br_ns ?_ | refine br_not ?_ | refine br_d (fun h => ?_) (fun h => ?_) | refine br_e (fun h => ?_) (fun h => ?_) | refine br_n (fun h => ?_) (fun h => ?_) | refine drw_fast (by kernel_rfl) ?_ | refine chk (by kernel_rfl) ?_ | refine stop ?_)
    all_goals refine Stop.mk ?_
    all_goals try exact absurd (by assumption) hz
    exact fin_id hE 0 rfl rfl rfl rfl ⟨rfl, rfl⟩
  rw [if_pos hz] at hp
  rw [if_neg (show ¬ (splitR [1, 2, 3] d).2 ≠ 0 by simp [hz])]
  obtain ⟨X, Y, Z, hd1, hd2⟩ := split3 hbd (by omega) hz
  have hf : dFirst d = dFn (X, 0) := by unfold dFirst; rw [hd2]; rfl
  have hse : dSecond d = dMFn (Y, 0) := by unfold dSecond; rw [hd2]; rfl
  have hg3 : (splitS [1, 2, 3] (d, 0)).1.getD 2 [] = Z := by rw [hd2]; rfl
  rw [hf, hse, hg3]
  have hln : X.length ≤ 1000000 ∧ Y.length ≤ 1000000 ∧ Z.length ≤ 1000000 := by
    have h9 := hsum.2
    rw [hL, hd1, sumL_cons, sumL_cons, sumL_cons, show sumL [] = 0 from rfl] at h9
    omega
  have hsr : (splitR [1, 2, 3] d).1 = [X, Y, Z] := hd2
  rw [hsr] at hp
  obtain ⟨valz, hp1, hp2, hvz⟩ := hp
  obtain ⟨AX, cX, AY, cY, AZ, cZ, hvv, sX, sY, sZ, bX, bY, bZ⟩ := cs3 hvz
  subst hvv
  subst hp1 hp2
  clear hd1 hd2 hdb hvz hz hf hse hg3 hL hsr hdo htk hbb
  repeat' ((fail_if_success with_reducible refine Stop.mk ?_); (conv => whnf); with_reducible first | refine br_t ?_ | refine br_f ?_ | refine br_nn ?_ | refine br_ns ?_ | refine br_not ?_ | refine br_d (fun h => ?_) (fun h => ?_) | refine br_e (fun h => ?_) (fun h => ?_) | refine br_n (fun h => ?_) (fun h => ?_) | refine drw_fast (by kernel_rfl) ?_ | refine chk (by kernel_rfl) ?_ | refine stop ?_)
  all_goals refine Stop.mk ?_
  all_goals try exact absurd rfl (by assumption)
  clear h
  refine ⟨⟨by decide, by simp⟩, ?_⟩
  repeat' ((fail_if_success with_reducible refine Stop.mk ?_); (conv => whnf); with_reducible first | refine br_t ?_ | refine br_f ?_ | refine br_nn ?_ | refine br_ns ?_ | refine br_not ?_ | refine br_d (fun h => ?_) (fun h => ?_) | refine br_e (fun h => ?_) (fun h => ?_) | refine br_n (fun h => ?_) (fun h => ?_) | refine drw_fast (by kernel_rfl) ?_ | refine chk (by kernel_rfl) ?_ | refine stop ?_)
  all_goals refine Stop.mk ?_
  refine ldrow1 ?_
  repeat' ((fail_if_success with_reducible refine Stop.mk ?_); (conv => whnf); with_reducible first | refine br_t ?_ | refine br_f ?_ | refine br_nn ?_ | refine br_ns ?_ | refine br_not ?_ | refine br_d (fun h => ?_) (fun h => ?_) | refine br_e (fun h => ?_) (fun h => ?_) | refine br_n (fun h => ?_) (fun h => ?_) | refine drw_fast (by kernel_rfl) ?_ | refine chk (by kernel_rfl) ?_ | refine stop ?_)
  all_goals refine Stop.mk ?_
  have hIX : RIn _ AX cX (X, 0) (X, 0) := ⟨sX, bX, by show X.length ≤ _; omega, rfl, fun _ => rfl⟩
  have hra := sUint_range (most := 1048576) (p := (X, 0)) bX
  have hba : isB (sUint 1048576 (X, 0)).2.1 := isB_sub bX (sUint_suf 1048576 (X, 0))
  have hrr := sUint_range (most := 1048576) hba
  obtain ⟨q, hq⟩ : ∃ q, q = sHead (X, 0) := ⟨_, rfl⟩
  have hq1 : q.1 = ((sUint 1048576 (X, 0)).1, (sUint 1048576 (sUint 1048576 (X, 0)).2).1) := by rw [hq]; rfl
  have hbq : isB q.2.1 := isB_sub bX (by rw [hq]; exact sHead_suf (X, 0))
  refine call_fn [] (r18Size_fn' hIX bX) rfl trivial (by decide) ?_
  rintro sv H' G' ⟨B1, d1, r1, rfl, hR1, rfl, rfl⟩ -
  refine ⟨Nat.le_of_ble_eq_true rfl, ?_⟩
  repeat' ((fail_if_success with_reducible refine Stop.mk ?_); (conv => whnf); with_reducible first | refine br_t ?_ | refine br_f ?_ | refine br_nn ?_ | refine br_ns ?_ | refine br_not ?_ | refine br_d (fun h => ?_) (fun h => ?_) | refine br_e (fun h => ?_) (fun h => ?_) | refine br_n (fun h => ?_) (fun h => ?_) | refine drw_fast (by kernel_rfl) ?_ | refine chk (by kernel_rfl) ?_ | refine stop ?_)
  all_goals refine Stop.mk ?_
  refine call_fn [] (r18Size_fn' hR1 hba) rfl trivial (by decide) ?_
  rintro sv H' G' ⟨B2, d2, r2, rfl, hR2, rfl, rfl⟩ -
  refine ⟨Nat.le_of_ble_eq_true rfl, ?_⟩
  repeat' ((fail_if_success with_reducible refine Stop.mk ?_); (conv => whnf); with_reducible first | refine br_t ?_ | refine br_f ?_ | refine br_nn ?_ | refine br_ns ?_ | refine br_not ?_ | refine br_d (fun h => ?_) (fun h => ?_) | refine br_e (fun h => ?_) (fun h => ?_) | refine br_n (fun h => ?_) (fun h => ?_) | refine drw_fast (by kernel_rfl) ?_ | refine chk (by kernel_rfl) ?_ | refine stop ?_)
  all_goals refine Stop.mk ?_
  all_goals try
    refine call_fn [] (r18Fail_fn 9 hR2 (by decide)) rfl trivial (by decide) ?_
    rintro sv H' G' ⟨B3, d3, r3, rfl, hR3, rfl, rfl⟩ -
    have hq2 : sFail 9 (sUint 1048576 (sUint 1048576 (X, 0)).2).2 = q.2 := by rw [hq]; unfold sHead; dsimp only; rw [if_pos (by assumption)]
    rw [hq2] at hR3
    have hne : (dFn (X, 0)).2.2 = 0 → False := fun h9 => dFn_bad (p := (X, 0)) (by rw [← hq, ← hq2]; exact sFail_ne (by decide)) h9
    refine ⟨Nat.le_of_ble_eq_true rfl, ?_⟩
    repeat' ((fail_if_success with_reducible refine Stop.mk ?_); (conv => whnf); with_reducible first | refine br_t ?_ | refine br_f ?_ | refine br_nn ?_ | refine br_ns ?_ | refine br_not ?_ | refine br_d (fun h => ?_) (fun h => ?_) | refine br_e (fun h => ?_) (fun h => ?_) | refine br_n (fun h => ?_) (fun h => ?_) | refine drw_fast (by kernel_rfl) ?_ | refine chk (by kernel_rfl) ?_ | refine stop ?_)
    all_goals refine Stop.mk ?_
  all_goals try
    have hq2 : (sUint 1048576 (sUint 1048576 (X, 0)).2).2 = q.2 := by rw [hq]; unfold sHead; dsimp only; rw [if_neg (by assumption)]
    have hR3 := hR2
    rw [hq2] at hR3
    have hne : False → False := id
  all_goals
    clear hq2 h hR1 hR2 hIX
    have e1 : (sUint 1048576 (X, 0)).1 = q.1.1 := by rw [hq1]
    have e2 : (sUint 1048576 (sUint 1048576 (X, 0)).2).1 = q.1.2 := by rw [hq1]
    rw [e1] at hra ⊢
    rw [e2] at hrr ⊢
    clear e1 e2
    refine call_fn [] (rfunction_fn q.1.2 hR3 hbq ⟨hrr.1, hrr.2.2 (by decide)⟩) rfl trivial (by decide) ?_
    rintro sv H' G' ⟨rfl, rfl, rfl⟩ -
    refine ⟨Nat.le_of_ble_eq_true rfl, ?_⟩
    have ef : dFn (X, 0) = ((⟨q.1.1, q.1.2, 0, (cntB q.2).1⟩, (dBlks q.1.2 (cntB q.2).1 (cntB q.2).2).1), (dBlks q.1.2 (cntB q.2).1 (cntB q.2).2).2) := by rw [hq]; rfl
    have ef1 : (cntB q.2).1 = (dFn (X, 0)).1.1.blocks := by rw [ef]
    have ef2 : (dBlks q.1.2 (cntB q.2).1 (cntB q.2).2).1 = (dFn (X, 0)).1.2 := by rw [ef]
    rw [ef2, ef1]
    clear ef ef1 ef2 hR3 hq hq1 hbq hra hrr hba
    repeat' ((fail_if_success with_reducible refine Stop.mk ?_); (conv => whnf); with_reducible first | refine br_t ?_ | refine br_f ?_ | refine br_nn ?_ | refine br_ns ?_ | refine br_not ?_ | refine br_d (fun h => ?_) (fun h => ?_) | refine br_e (fun h => ?_) (fun h => ?_) | refine br_n (fun h => ?_) (fun h => ?_) | refine drw_fast (by kernel_rfl) ?_ | refine chk (by kernel_rfl) ?_ | refine stop ?_)
    all_goals refine Stop.mk ?_
  all_goals
    refine ⟨⟨by decide, by simp⟩, ?_⟩
    repeat' ((fail_if_success with_reducible refine Stop.mk ?_); (conv => whnf); with_reducible first | refine br_t ?_ | refine br_f ?_ | refine br_nn ?_ | refine br_ns ?_ | refine br_not ?_ | refine br_d (fun h => ?_) (fun h => ?_) | refine br_e (fun h => ?_) (fun h => ?_) | refine br_n (fun h => ?_) (fun h => ?_) | refine drw_fast (by kernel_rfl) ?_ | refine chk (by kernel_rfl) ?_ | refine stop ?_)
    all_goals refine Stop.mk ?_
    refine ldrow1 ?_
    repeat' ((fail_if_success with_reducible refine Stop.mk ?_); (conv => whnf); with_reducible first | refine br_t ?_ | refine br_f ?_ | refine br_nn ?_ | refine br_ns ?_ | refine br_not ?_ | refine br_d (fun h => ?_) (fun h => ?_) | refine br_e (fun h => ?_) (fun h => ?_) | refine br_n (fun h => ?_) (fun h => ?_) | refine drw_fast (by kernel_rfl) ?_ | refine chk (by kernel_rfl) ?_ | refine stop ?_)
    all_goals refine Stop.mk ?_
    have hIX : RIn _ AX cX (X, 0) (X, 0) := ⟨sX, bX, by show X.length ≤ _; omega, rfl, fun _ => rfl⟩
    obtain ⟨k1, k2, k3, k4, k5⟩ := dFn_lin bX
    obtain ⟨m1, m2⟩ := dFn_same bX
    refine call_fn [] (rfunc_fn hIX bX) rfl trivial (by decide) ?_
    rintro sv H' G' ⟨BF, dF, AF, cF, ii, rfl, hSF, hRF, rfl⟩ hg
    replace sY := Sl.to hg sY
    replace sZ := Sl.to hg sZ
    clear hg hIX sX
    refine ⟨Nat.le_of_ble_eq_true rfl, ?_⟩
    rw [← m1] at hRF
    have hie := hRF.he
    have hir := hRF.hr
    generalize (sFnR (X, 0)).1 = f at *
    obtain ⟨fa, fr, fb⟩ := f
    generalize dFn (X, 0) = F at *
    obtain ⟨⟨s1, l1⟩, p1⟩ := F
    dsimp only at k1 k2 k3 k4 k5 m2 hRF hie hir
    rw [show fnS BF dF ⟨fa, fr, fb⟩ = .agg [.v (.int .i64 fa), .v (.int .i64 fr), .v (.slice BF fb.length dF)] from rfl]
    dsimp only
    clear hSF m1
    repeat' ((fail_if_success with_reducible refine Stop.mk ?_); (conv => whnf); with_reducible first | refine br_t ?_ | refine br_f ?_ | refine br_nn ?_ | refine br_ns ?_ | refine br_not ?_ | refine br_d (fun h => ?_) (fun h => ?_) | refine br_e (fun h => ?_) (fun h => ?_) | refine br_n (fun h => ?_) (fun h => ?_) | refine drw_fast (by kernel_rfl) ?_ | refine chk (by kernel_rfl) ?_ | refine stop ?_)
    all_goals refine Stop.mk ?_
  all_goals try
    have hbad : (sEnd p1).2 ≠ 0 := by
      first
        | exact sEnd_bad (.inl (by rw [← hie]; assumption))
        | exact sEnd_bad (.inr (by
            have h0 : p1.2 = 0 := by rw [← hie]; assumption
            rw [← hir h0]; omega))
    rw [if_pos hbad]
    exact fin_id hE 0 rfl rfl rfl rfl ⟨rfl, rfl⟩
  all_goals try exact absurd (show p1.2 = 0 by rw [← hie]; assumption) hne
  all_goals
    clear hne
    have h0 : p1.2 = 0 := by rw [← hie]; assumption
    have hgood : (sEnd p1).2 = 0 := sEnd_good h0 (by rw [← hir h0]; omega)
    rw [if_neg (show ¬ (sEnd p1).2 ≠ 0 by simp [hgood])]
    obtain ⟨m3, m4, m5⟩ := m2 h0
    subst m3 m4
    clear m2 hgood h0 hRF hie hir
  all_goals
    refine ⟨⟨by decide, by simp⟩, ?_⟩
    repeat' ((fail_if_success with_reducible refine Stop.mk ?_); (conv => whnf); with_reducible first | refine br_t ?_ | refine br_f ?_ | refine br_nn ?_ | refine br_ns ?_ | refine br_not ?_ | refine br_d (fun h => ?_) (fun h => ?_) | refine br_e (fun h => ?_) (fun h => ?_) | refine br_n (fun h => ?_) (fun h => ?_) | refine drw_fast (by kernel_rfl) ?_ | refine chk (by kernel_rfl) ?_ | refine stop ?_)
    all_goals refine Stop.mk ?_
    refine ldrow1 ?_
    repeat' ((fail_if_success with_reducible refine Stop.mk ?_); (conv => whnf); with_reducible first | refine br_t ?_ | refine br_f ?_ | refine br_nn ?_ | refine br_ns ?_ | refine br_not ?_ | refine br_d (fun h => ?_) (fun h => ?_) | refine br_e (fun h => ?_) (fun h => ?_) | refine br_n (fun h => ?_) (fun h => ?_) | refine drw_fast (by kernel_rfl) ?_ | refine chk (by kernel_rfl) ?_ | refine stop ?_)
    all_goals refine Stop.mk ?_
    have hIY : RIn _ AY cY (Y, 0) (Y, 0) := ⟨sY, bY, by show Y.length ≤ _; omega, rfl, fun _ => rfl⟩
    have hra := sUint_range (most := 1048576) (p := (Y, 0)) bY
    have hba : isB (sUint 1048576 (Y, 0)).2.1 := isB_sub bY (sUint_suf 1048576 (Y, 0))
    have hrr := sUint_range (most := 1048576) hba
    have hbr : isB (sUint 1048576 (sUint 1048576 (Y, 0)).2).2.1 := isB_sub hba (sUint_suf 1048576 _)
    have hrs := sUint_range (most := 1048576) hbr
    obtain ⟨q2, hq⟩ : ∃ q2, q2 = sMHead (Y, 0) := ⟨_, rfl⟩
    have hq1 : q2.1 = ((sUint 1048576 (Y, 0)).1, (sUint 1048576 (sUint 1048576 (Y, 0)).2).1, (sUint 1048576 (sUint 1048576 (sUint 1048576 (Y, 0)).2).2).1) := by rw [hq]; rfl
    have hbq : isB q2.2.1 := isB_sub bY (by rw [hq]; exact sMHead_suf (Y, 0))
    refine call_fn [] (r18Size_fn' hIY bY) rfl trivial (by decide) ?_
    rintro sv H' G' ⟨C1, e1, t1, rfl, hT1, rfl, rfl⟩ -
    refine ⟨Nat.le_of_ble_eq_true rfl, ?_⟩
    repeat' ((fail_if_success with_reducible refine Stop.mk ?_); (conv => whnf); with_reducible first | refine br_t ?_ | refine br_f ?_ | refine br_nn ?_ | refine br_ns ?_ | refine br_not ?_ | refine br_d (fun h => ?_) (fun h => ?_) | refine br_e (fun h => ?_) (fun h => ?_) | refine br_n (fun h => ?_) (fun h => ?_) | refine drw_fast (by kernel_rfl) ?_ | refine chk (by kernel_rfl) ?_ | refine stop ?_)
    all_goals refine Stop.mk ?_
    refine call_fn [] (r18Size_fn' hT1 hba) rfl trivial (by decide) ?_
    rintro sv H' G' ⟨C2, e2, t2, rfl, hT2, rfl, rfl⟩ -
    refine ⟨Nat.le_of_ble_eq_true rfl, ?_⟩
    repeat' ((fail_if_success with_reducible refine Stop.mk ?_); (conv => whnf); with_reducible first | refine br_t ?_ | refine br_f ?_ | refine br_nn ?_ | refine br_ns ?_ | refine br_not ?_ | refine br_d (fun h => ?_) (fun h => ?_) | refine br_e (fun h => ?_) (fun h => ?_) | refine br_n (fun h => ?_) (fun h => ?_) | refine drw_fast (by kernel_rfl) ?_ | refine chk (by kernel_rfl) ?_ | refine stop ?_)
    all_goals refine Stop.mk ?_
    refine call_fn [] (r18Size_fn' hT2 hbr) rfl trivial (by decide) ?_
    rintro sv H' G' ⟨C3, e3, t3, rfl, hT3, rfl, rfl⟩ -
    refine ⟨Nat.le_of_ble_eq_true rfl, ?_⟩
    clear hT1 hT2
    repeat' ((fail_if_success with_reducible refine Stop.mk ?_); (conv => whnf); with_reducible first | refine br_t ?_ | refine br_f ?_ | refine br_nn ?_ | refine br_ns ?_ | refine br_not ?_ | refine br_d (fun h => ?_) (fun h => ?_) | refine br_e (fun h => ?_) (fun h => ?_) | refine br_n (fun h => ?_) (fun h => ?_) | refine drw_fast (by kernel_rfl) ?_ | refine chk (by kernel_rfl) ?_ | refine stop ?_)
    all_goals refine Stop.mk ?_
  all_goals try
    refine call_fn [] (r18Fail_fn 10 hT3 (by decide)) rfl trivial (by decide) ?_
    rintro sv H' G' ⟨C4, e4, t4, rfl, hT4, rfl, rfl⟩ -
    have hq2 : sFail 10 (sUint 1048576 (sUint 1048576 (sUint 1048576 (Y, 0)).2).2).2 = q2.2 := by rw [hq]; unfold sMHead; dsimp only; rw [if_pos (by assumption)]
    rw [hq2] at hT4
    have hne : (dMFn (Y, 0)).2.2 = 0 → False := fun h9 => dMFn_bad (p := (Y, 0)) (by rw [← hq, ← hq2]; exact sFail_ne (by decide)) h9
    refine ⟨Nat.le_of_ble_eq_true rfl, ?_⟩
    repeat' ((fail_if_success with_reducible refine Stop.mk ?_); (conv => whnf); with_reducible first | refine br_t ?_ | refine br_f ?_ | refine br_nn ?_ | refine br_ns ?_ | refine br_not ?_ | refine br_d (fun h => ?_) (fun h => ?_) | refine br_e (fun h => ?_) (fun h => ?_) | refine br_n (fun h => ?_) (fun h => ?_) | refine drw_fast (by kernel_rfl) ?_ | refine chk (by kernel_rfl) ?_ | refine stop ?_)
    all_goals refine Stop.mk ?_
  all_goals try
    have hq2 : (sUint 1048576 (sUint 1048576 (sUint 1048576 (Y, 0)).2).2).2 = q2.2 := by rw [hq]; unfold sMHead; dsimp only; rw [if_neg (by assumption)]
    have hT4 := hT3
    rw [hq2] at hT4
    have hne : False → False := id
  all_goals
    clear hq2 h hT3 hIY
    have u1 : (sUint 1048576 (Y, 0)).1 = q2.1.1 := by rw [hq1]
    have u2 : (sUint 1048576 (sUint 1048576 (Y, 0)).2).1 = q2.1.2.1 := by rw [hq1]
    have u3 : (sUint 1048576 (sUint 1048576 (sUint 1048576 (Y, 0)).2).2).1 = q2.1.2.2 := by rw [hq1]
    rw [u1] at hra ⊢
    rw [u2] at hrr ⊢
    rw [u3] at hrs ⊢
    clear u1 u2 u3
    refine call_fn [] (rmfunction_fn q2.1.2.1 q2.1.2.2 hT4 hbq ⟨hrr.1, hrr.2.2 (by decide)⟩ ⟨hrs.1, hrs.2.2 (by decide)⟩) rfl trivial (by decide) ?_
    rintro sv H' G' ⟨rfl, rfl, rfl⟩ -
    refine ⟨Nat.le_of_ble_eq_true rfl, ?_⟩
    obtain ⟨n1, n2, n3, n4, n5⟩ := dMFn_lin bY
    obtain ⟨o1, o2⟩ := dMFn_same bY
    have ef : dMFn (Y, 0) = ((⟨q2.1.1, q2.1.2.1, q2.1.2.2, (cntB q2.2).1⟩, (dMBlks q2.1.2.1 q2.1.2.2 (cntB q2.2).1 (cntB q2.2).2).1), (dMBlks q2.1.2.1 q2.1.2.2 (cntB q2.2).1 (cntB q2.2).2).2) := by rw [hq]; rfl
    have ef1 : (cntB q2.2).1 = (dMFn (Y, 0)).1.1.blocks := by rw [ef]
    have ef2 : (dMBlks q2.1.2.1 q2.1.2.2 (cntB q2.2).1 (cntB q2.2).2).1 = (dMFn (Y, 0)).1.2 := by rw [ef]
    rw [ef2, ef1]
    clear ef ef1 ef2 hT4 hq hq1 hbq hra hrr hrs hba hbr
    have hw1 : IntKind.i64.wrap (s1.blocks + (dMFn (Y, 0)).1.1.blocks) = s1.blocks + (dMFn (Y, 0)).1.1.blocks := i64_in (by omega) (by omega)
    have hw2 : IntKind.i64.wrap (sumI l1 + sumI (dMFn (Y, 0)).1.2) = sumI l1 + sumI (dMFn (Y, 0)).1.2 := i64_in (by omega) (by omega)
    repeat' ((fail_if_success with_reducible refine Stop.mk ?_); (conv => whnf); with_reducible first | refine br_t ?_ | refine br_f ?_ | refine br_nn ?_ | refine br_ns ?_ | refine br_not ?_ | refine br_d (fun h => ?_) (fun h => ?_) | refine br_e (fun h => ?_) (fun h => ?_) | refine br_n (fun h => ?_) (fun h => ?_) | refine drw_fast (by kernel_rfl) ?_ | refine chk (by kernel_rfl) ?_ | refine stop ?_)
    all_goals refine Stop.mk ?_
    rw [hw1, hw2]
    clear hw1 hw2
    refine ⟨⟨by decide, by simp⟩, ?_⟩
    repeat' ((fail_if_success with_reducible refine Stop.mk ?_); (conv => whnf); with_reducible first | refine br_t ?_ | refine br_f ?_ | refine br_nn ?_ | refine br_ns ?_ | refine br_not ?_ | refine br_d (fun h => ?_) (fun h => ?_) | refine br_e (fun h => ?_) (fun h => ?_) | refine br_n (fun h => ?_) (fun h => ?_) | refine drw_fast (by kernel_rfl) ?_ | refine chk (by kernel_rfl) ?_ | refine stop ?_)
    all_goals refine Stop.mk ?_
    refine ldrow1 ?_
    repeat' ((fail_if_success with_reducible refine Stop.mk ?_); (conv => whnf); with_reducible first | refine br_t ?_ | refine br_f ?_ | refine br_nn ?_ | refine br_ns ?_ | refine br_not ?_ | refine br_d (fun h => ?_) (fun h => ?_) | refine br_e (fun h => ?_) (fun h => ?_) | refine br_n (fun h => ?_) (fun h => ?_) | refine drw_fast (by kernel_rfl) ?_ | refine chk (by kernel_rfl) ?_ | refine stop ?_)
    all_goals refine Stop.mk ?_
    have hIY : RIn _ AY cY (Y, 0) (Y, 0) := ⟨sY, bY, by show Y.length ≤ _; omega, rfl, fun _ => rfl⟩
    refine call_fn [] (rmfunc_fn hIY bY) rfl trivial (by decide) ?_
    rintro sv H' G' ⟨BF2, dF2, AF2, cF2, i2, rfl, hSF, hRF, rfl⟩ hg
    replace sZ := Sl.to hg sZ
    clear hg hIY sY
    refine ⟨Nat.le_of_ble_eq_true rfl, ?_⟩
    rw [← o1] at hRF
    have hie := hRF.he
    have hir := hRF.hr
    generalize (sMFnR (Y, 0)).1 = f at *
    obtain ⟨ga, gr, gs, gb⟩ := f
    generalize dMFn (Y, 0) = F at *
    obtain ⟨⟨s2, l2⟩, p2⟩ := F
    dsimp only at n1 n2 n3 n4 n5 o2 hRF hie hir
    rw [show mfnS BF2 dF2 ⟨ga, gr, gs, gb⟩ = .agg [.v (.int .i64 ga), .v (.int .i64 gr), .v (.int .i64 gs), .v (.slice BF2 gb.length dF2)] from rfl]
    dsimp only
    clear hSF o1
    repeat' ((fail_if_success with_reducible refine Stop.mk ?_); (conv => whnf); with_reducible first | refine br_t ?_ | refine br_f ?_ | refine br_nn ?_ | refine br_ns ?_ | refine br_not ?_ | refine br_d (fun h => ?_) (fun h => ?_) | refine br_e (fun h => ?_) (fun h => ?_) | refine br_n (fun h => ?_) (fun h => ?_) | refine drw_fast (by kernel_rfl) ?_ | refine chk (by kernel_rfl) ?_ | refine stop ?_)
    all_goals refine Stop.mk ?_
  all_goals try
    have hbad : (sEnd p2).2 ≠ 0 ∨ s1.blocks ≠ s2.blocks ∨ s1.args ≠ s2.args := by
      first
        | exact .inl (sEnd_bad (.inl (by rw [← hie]; assumption)))
        | exact .inl (sEnd_bad (.inr (by
            have h0 : p2.2 = 0 := by rw [← hie]; assumption
            rw [← hir h0]; omega)))
        | (have h0 : p2.2 = 0 := by rw [← hie]; assumption
           obtain ⟨v1, v2, v3, v4⟩ := o2 h0
           exact .inr (.inl (by omega)))
        | (have h0 : p2.2 = 0 := by rw [← hie]; assumption
           obtain ⟨v1, v2, v3, v4⟩ := o2 h0
           exact .inr (.inr (by rw [← v1]; assumption)))
    rw [if_pos hbad]
    exact fin_id hE 0 rfl rfl rfl rfl ⟨rfl, rfl⟩
  all_goals try exact absurd (show p2.2 = 0 by rw [← hie]; assumption) hne
  all_goals
    clear hne
    have h0 : p2.2 = 0 := by rw [← hie]; assumption
    obtain ⟨v1, v2, v3, v4⟩ := o2 h0
    have hgood : ¬ ((sEnd p2).2 ≠ 0 ∨ s1.blocks ≠ s2.blocks ∨ s1.args ≠ s2.args) := by
      rintro (h9 | h9 | h9)
      · exact h9 (sEnd_good h0 (by rw [← hir h0]; omega))
      · omega
      · exact h9 (by rw [← v1]; assumption)
    rw [if_neg hgood]
    clear hgood hRF hie hir o2 h0
    subst v1 v2 v3
    refine ⟨⟨by decide, by simp⟩, ?_⟩
    repeat' ((fail_if_success with_reducible refine Stop.mk ?_); (conv => whnf); with_reducible first | refine br_t ?_ | refine br_f ?_ | refine br_nn ?_ | refine br_ns ?_ | refine br_not ?_ | refine br_d (fun h => ?_) (fun h => ?_) | refine br_e (fun h => ?_) (fun h => ?_) | refine br_n (fun h => ?_) (fun h => ?_) | refine drw_fast (by kernel_rfl) ?_ | refine chk (by kernel_rfl) ?_ | refine stop ?_)
    all_goals refine Stop.mk ?_
    refine ldrow1 ?_
    repeat' ((fail_if_success with_reducible refine Stop.mk ?_); (conv => whnf); with_reducible first | refine br_t ?_ | refine br_f ?_ | refine br_nn ?_ | refine br_ns ?_ | refine br_not ?_ | refine br_d (fun h => ?_) (fun h => ?_) | refine br_e (fun h => ?_) (fun h => ?_) | refine br_n (fun h => ?_) (fun h => ?_) | refine drw_fast (by kernel_rfl) ?_ | refine chk (by kernel_rfl) ?_ | refine stop ?_)
    all_goals refine Stop.mk ?_
    have hIZ : RIn _ AZ cZ (Z, 0) (Z, 0) := ⟨sZ, bZ, by show Z.length ≤ _; omega, rfl, fun _ => rfl⟩
    clear sZ
    have hpost : dInv s1.regs s2.regs s2.slots s1.blocks (Z, 0) = rep (sBlkW s1.regs s2.regs s2.slots) addN s1.blocks.toNat 0 (Z, 0) := rfl
    rw [hpost]
    clear hpost
    have hfb : fb.length = s1.blocks.toNat := by omega
    obtain ⟨_, r1b, _, _⟩ := k5
    obtain ⟨_, r2b, r3b, _⟩ := n5
    refine loop_vars follows [] (α := Nat × Int × Ps × List Int × Option Addr × Nat × Ps × Gh) (fun x => [(17, .v (.int .i64 x.2.1)), (18, .v (.int .i64 x.1))])
      (fun x => [.cells 27 [.v (.int .i64 0), .v (.int .i64 0), .v (.int .i64 0), .v (.int .i64 0)], .cells 27 [.v (.int .i64 (s1.blocks + s2.blocks)), .v (.int .i64 (sumI l1 + sumI l2)), .v (.int .i64 (sumI x.2.2.2.1)), .v (.int .i64 L)], .gone, .row 22 1 [X, Y, Z].length [.slice AX X.length cX, .slice AY Y.length cY, .slice AZ Z.length cZ], inO C3 e3 t3, .cells 33 [.v (.int .i64 s1.args), .v (.int .i64 s1.regs), .v (.slice BF fb.length dF)], inO AF cF ii, .cells 36 [.v (.int .i64 s2.args), .v (.int .i64 s2.regs), .v (.int .i64 s2.slots), .v (.slice BF2 gb.length dF2)], inO AF2 cF2 i2, inO x.2.2.2.2.1 x.2.2.2.2.2.1 x.2.2.2.2.2.2.1]) (fun x => x.2.2.2.2.2.2.2)
      (fun x => x.1 ≤ s1.blocks.toNat ∧ RIn x.2.2.2.2.2.2.2 x.2.2.2.2.1 x.2.2.2.2.2.1 x.2.2.1 x.2.2.2.2.2.2.1 ∧ isB x.2.2.1.1 ∧ Run (sBlkW s1.regs s2.regs s2.slots) addN s1.blocks.toNat 0 (Z, 0) x.1 x.2.1 x.2.2.1 x.2.2.2.1 ∧ (x.2.2.1.2 = 0 → (0 ≤ x.2.1 ∧ x.2.1 ≤ 1048576) ∧ sumI x.2.2.2.1 = x.2.1))
      (fun x => s1.blocks.toNat - x.1) (0, 0, (Z, 0), [], AZ, cZ, (Z, 0), _)
      ⟨Nat.zero_le _, hIZ, bZ, Run.start _ _ _, fun _ => ⟨⟨Int.le_refl _, by dsimp only; decide⟩, rfl⟩⟩ rfl rfl ?_ ?_
    ·
      refine ⟨?_⟩
      (conv => whnf)
      (repeat' (first | exact trivial | exact .inl rfl | exact .inr rfl | refine And.intro ?_ ?_))
    clear hIZ
    rintro ⟨k, T, p3, acc, A9, c9, ri, Gk⟩ ⟨hk, hR, hpb, hrun, ht⟩
    dsimp only at hk hR hpb hrun ht ⊢
    have hw2 : IntKind.i64.wrap ((k : Int) + 1) = ((k + 1 : Nat) : Int) := by rw [i64_in (by omega) (by omega)]; simp
    have he1 := hR.he
    repeat' ((fail_if_success with_reducible refine Stop.mk ?_); (conv => whnf); with_reducible first | refine br_t ?_ | refine br_f ?_ | refine br_nn ?_ | refine br_ns ?_ | refine br_not ?_ | refine br_d (fun h => ?_) (fun h => ?_) | refine br_e (fun h => ?_) (fun h => ?_) | refine br_n (fun h => ?_) (fun h => ?_) | refine drw_fast (by kernel_rfl) ?_ | refine chk (by kernel_rfl) ?_ | refine stop ?_)
    all_goals refine Stop.mk ?_
    · have hp0 : p3.2 = 0 := by rw [← he1]; assumption
      have hkk : k < s1.blocks.toNat := by omega
      obtain ⟨⟨ht1, ht2⟩, hsumT⟩ := ht hp0
      have hcr2 := sCount_range (most := 1048576) (size := 2) hpb (by decide)
      refine call_fn [] (r18Count_fn 2 hR hpb (by decide)) rfl trivial (by decide) ?_
      rintro sv H' G' ⟨B5, d5, r5, rfl, hR5, rfl, rfl⟩ -
      refine ⟨Nat.le_of_ble_eq_true rfl, ?_⟩
      have hw3 : IntKind.i64.wrap (T + (sCount 1048576 2 p3).1) = T + (sCount 1048576 2 p3).1 := i64_in (by omega) (by omega)
      have hw4 : IntKind.i64.wrap (sumI acc + (sCount 1048576 2 p3).1) = sumI acc + (sCount 1048576 2 p3).1 := i64_in (by omega) (by omega)
      obtain ⟨u, hu⟩ : ∃ u, u = cntI T p3 := ⟨_, rfl⟩
      have hu1 : u.1 = (sCount 1048576 2 p3).1 := by rw [hu]; rfl
      have hblk : sBlkW s1.regs s2.regs s2.slots T p3 = (u.1, (sBlk s1.regs s2.regs s2.slots T p3).2) := by rw [hu]; rfl
      have hnext := hrun.next hkk hp0 hblk (T + u.1) (fun _ => rfl)
      have he5 := hR5.he
      have hstop : u.2.2 ≠ 0 → (rep (sBlkW s1.regs s2.regs s2.slots) addN s1.blocks.toNat 0 (Z, 0)).1 = acc ++ [u.1] := fun h9 => by
        have h8 : (sBlk s1.regs s2.regs s2.slots T p3).2.2 ≠ 0 := sBlkW_bad (vregs := s1.regs) (regs := s2.regs) (slots := s2.slots) (t := T) (p := p3) (by rw [← hu]; exact h9)
        rw [hnext.done (.inr h8)]
      repeat' ((fail_if_success with_reducible refine Stop.mk ?_); (conv => whnf); with_reducible first | refine br_t ?_ | refine br_f ?_ | refine br_nn ?_ | refine br_ns ?_ | refine br_not ?_ | refine br_d (fun h => ?_) (fun h => ?_) | refine br_e (fun h => ?_) (fun h => ?_) | refine br_n (fun h => ?_) (fun h => ?_) | refine drw_fast (by kernel_rfl) ?_ | refine chk (by kernel_rfl) ?_ | refine stop ?_)
      all_goals refine Stop.mk ?_
      all_goals rw [hw4]
      all_goals try
        have hbig : T + (sCount 1048576 2 p3).1 > 1048576 := by rw [← hw3]; assumption
        have hu9 : u.2.2 ≠ 0 := by rw [hu]; unfold cntI cntC; rw [if_neg (by simp only [decide_eq_true_eq]; omega)]; exact sFail_ne (by decide)
        refine fin_id hE 0 rfl rfl rfl rfl ⟨?_, rfl⟩
        rw [hstop hu9, sumI_snoc, hu1]
        rfl
      all_goals
        have hle : T + (sCount 1048576 2 p3).1 ≤ 1048576 := by
          rw [← hw3]
          first
            | (have h7 : ¬ IntKind.i64.wrap (T + (sCount 1048576 2 p3).1) > 1048576 := by assumption
               omega)
        have hu2 : u.2 = (sCount 1048576 2 p3).2 := by rw [hu]; unfold cntI cntC; rw [if_pos (by simp only [decide_eq_true_eq]; omega)]
      all_goals try
        have hu9 : u.2.2 ≠ 0 := by rw [hu2, ← he5]; assumption
        refine fin_id hE 0 rfl rfl rfl rfl ⟨?_, rfl⟩
        rw [hstop hu9, sumI_snoc, hu1]
        rfl
      have hc0 : (sCount 1048576 2 p3).2.2 = 0 := by rw [← he5]; assumption
      have hone := sInv_one (vregs := s1.regs) (regs := s2.regs) (slots := s2.slots) hp0 hpb ht1 hc0 hle
      refine call_fn [] (rget_inv_fn 1 s1.regs s2.regs s2.slots hR hpb (by decide) ⟨r1b.1, by omega⟩ (by omega) (by omega)) rfl trivial (by decide) ?_
      rintro sv H' G' ⟨v, B6, d6, r6, rfl, hInv, hR6, rfl⟩ -
      refine ⟨Nat.le_of_ble_eq_true rfl, ?_⟩
      obtain ⟨A7, c7, rfl, _⟩ := hInv
      rw [hone] at hR6
      have hpb6 : isB (sBlk s1.regs s2.regs s2.slots T p3).2.1 := isB_sub hpb (sBlkW_suf _ _ _ _ _)
      clear hone hR hpb hstop hblk hR5
      rw [hw3]
      rw [← hu1] at hle hcr2 ⊢
      clear hw3 hw4 hu1
      generalize (sBlk s1.regs s2.regs s2.slots T p3).2 = p4 at *
      repeat' ((fail_if_success with_reducible refine Stop.mk ?_); (conv => whnf); with_reducible first | refine br_t ?_ | refine br_f ?_ | refine br_nn ?_ | refine br_ns ?_ | refine br_not ?_ | refine br_d (fun h => ?_) (fun h => ?_) | refine br_e (fun h => ?_) (fun h => ?_) | refine br_n (fun h => ?_) (fun h => ?_) | refine drw_fast (by kernel_rfl) ?_ | refine chk (by kernel_rfl) ?_ | refine stop ?_)
      all_goals refine Stop.mk ?_
      rw [hw2]
      refine tell_gc hE [0, 1, 2, 3, 4, 5, 6, 7, 8, 9] rfl rfl ?_
      (conv => whnf)
      refine tell_here ⟨(k + 1, T + u.1, p4, acc ++ [u.1], B6, d6, r6, _), ⟨by show k + 1 ≤ _; omega, hR6, hpb6, hnext, fun h0 => ⟨by dsimp only; omega, by rw [sumI_snoc, hsumT]⟩⟩, by show s1.blocks.toNat - (k + 1) < s1.blocks.toNat - k; omega, ?_, rfl, ?_⟩
      · show [_, _, _, _, _, _, _, _, _, _] = [_, _, _, _, _, _, _, _, _, _]
        rw [sumI_snoc]; rfl
      ·
        refine ⟨?_⟩
        (conv => whnf)
        (repeat' (first | exact trivial | exact .inl rfl | exact .inr rfl | refine And.intro ?_ ?_))
    all_goals
      have he := hrun.done (by first | exact .inl (by omega) | exact .inr (by rw [← he1]; assumption))
      rw [he]
      exact fin_id hE 0 rfl rfl rfl rfl ⟨rfl, rfl⟩
end Go.Proofs.Ytkhajngpcgmpnaa.Cu

namespace Go.Proofs.Ytkhajngpcgmpnaa.Cu
open Go Go.SX Go.Proofs.Ytkhajngpcgmpnaa.VT
set_option maxRecDepth 100000
set_option linter.unusedVariables false
set_option linter.unusedSimpArgs false

set_option maxHeartbeats 8000000 in
theorem dmatch_fn {G : Gh} {A : Option Addr} {b : List Int} {c : Nat} (hbb : isB b) (hb : SlB G A c b) :
    Ct Try.prog 3 [.v (.slice A b.length c)] [] G fun sv H' G' => sv = .v (.bool true) ∧ H' = [] := by
  refine fn_of follows [(5, (.cons 0 [] (.cons 1 [] (.cons 2 [] (.cons 3 [] (.cons 4 [] (.cons 5 [] (.cons 6 [] (.cons 7 [] (.cons 8 [] (.cons 9 [] (.cons 10 [] (.cons 11 [] (.cons 12 [] (.cons 14 [] (.cons 15 [] (.cons 16 [] (.cons 17 [] (.cons 18 [] (.cons 19 [] (.cons 20 [] (.cons 21 [] (.cons 13 [0, 2, 4, 6, 8, 12] (.cons 22 [] (.cons 23 [] (.cons 24 [] .nil))))))))))))))))))))))))))] Try.func3 rfl rfl fun E hE => ?_
  repeat' ((fail_if_success with_reducible refine Stop.mk ?_); (conv => whnf); with_reducible first | refine br_t ?_ | refine br_f ?_ | refine br_nn ?_ | refine br_ns ?_ | refine br_not ?_ | refine br_d (fun h => ?_) (fun h => ?_) | refine br_e (fun h => ?_) (fun h => ?_) | refine br_n (fun h => ?_) (fun h => ?_) | refine drw_fast (by kernel_rfl) ?_ | refine chk (by kernel_rfl) ?_ | refine stop ?_)
  all_goals refine Stop.mk ?_
  refine call_fn [] (awake21_fn _) rfl trivial (by decide) ?_
  rintro sv H' G' ⟨rfl, rfl⟩ hg
  refine ⟨Nat.le_of_ble_eq_true rfl, ?_⟩
  replace hb := Sl.to hg hb
  clear hg
  repeat' ((fail_if_success with_reducible refine Stop.mk ?_); (conv => whnf); with_reducible first | refine br_t ?_ | refine br_f ?_ | refine br_nn ?_ | refine br_ns ?_ | refine br_not ?_ | refine br_d (fun h => ?_) (fun h => ?_) | refine br_e (fun h => ?_) (fun h => ?_) | refine br_n (fun h => ?_) (fun h => ?_) | refine br_b (fun h => ?_) (fun h => ?_) | refine drw_fast (by kernel_rfl) ?_ | refine chk (by kernel_rfl) ?_ | refine stop ?_)
  all_goals refine Stop.mk ?_
  ·
    refine call_fn [] (awake21_fn _) rfl trivial (by decide) ?_
    rintro sv H' G' ⟨rfl, rfl⟩ -
    refine ⟨Nat.le_of_ble_eq_true rfl, ?_⟩
    repeat' ((fail_if_success with_reducible refine Stop.mk ?_); (conv => whnf); with_reducible first | refine br_t ?_ | refine br_f ?_ | refine br_nn ?_ | refine br_ns ?_ | refine br_not ?_ | refine br_d (fun h => ?_) (fun h => ?_) | refine br_e (fun h => ?_) (fun h => ?_) | refine br_n (fun h => ?_) (fun h => ?_) | refine drw_fast (by kernel_rfl) ?_ | refine chk (by kernel_rfl) ?_ | refine stop ?_)
    all_goals refine Stop.mk ?_
    exact fin_id hE 0 rfl rfl rfl rfl ⟨rfl, rfl⟩
  have hl : b.length ≤ 3000 := by omega
  have hlin := dOf_lin hbb (by omega)
  have hok := dOf_ok hbb (by omega)
  refine call_fn [] (dof_fn hbb hb (by omega)) rfl trivial (by decide) ?_
  rintro sv H' G' ⟨rfl, rfl⟩ hg
  replace hb := Sl.to hg hb
  clear hg
  refine ⟨Nat.le_of_ble_eq_true rfl, ?_⟩
  have hx : (dOf b).sv = .agg [.v (.int .i64 (dOf b).blocks), .v (.int .i64 (dOf b).instrs), .v (.int .i64 (dOf b).pairs), .v (.int .i64 (dOf b).bytes)] := rfl
  rw [hx]
  repeat' ((fail_if_success with_reducible refine Stop.mk ?_); (conv => whnf); with_reducible first | refine br_t ?_ | refine br_f ?_ | refine br_nn ?_ | refine br_ns ?_ | refine br_not ?_ | refine br_d (fun h => ?_) (fun h => ?_) | refine br_e (fun h => ?_) (fun h => ?_) | refine br_n (fun h => ?_) (fun h => ?_) | refine drw_fast (by kernel_rfl) ?_ | refine chk (by kernel_rfl) ?_ | refine stop ?_)
  all_goals refine Stop.mk ?_
  refine call_fn [] (rof_fn hbb hb (by omega)) rfl trivial (by decide) ?_
  rintro sv H' G' ⟨rfl, rfl⟩ -
  refine ⟨Nat.le_of_ble_eq_true rfl, ?_⟩
  rw [hx]
  clear hx hb
  generalize dOf b = x at *
  obtain ⟨x1, x2, x3, x4⟩ := x
  dsimp only at hlin ⊢
  repeat' ((fail_if_success with_reducible refine Stop.mk ?_); (conv => whnf); with_reducible first | refine br_t ?_ | refine br_f ?_ | refine br_nn ?_ | refine br_ns ?_ | refine br_not ?_ | refine br_d (fun h => ?_) (fun h => ?_) | refine br_e (fun h => ?_) (fun h => ?_) | refine br_n (fun h => ?_) (fun h => ?_) | refine br_b (fun h => ?_) (fun h => ?_) | refine drw_fast (by kernel_rfl) ?_ | refine chk (by kernel_rfl) ?_ | refine stop ?_)
  all_goals refine Stop.mk ?_
  all_goals try exact absurd rfl h
  refine call_fn [] (dtotal_fn ⟨x1, x2, x3, x4⟩ hok) rfl trivial (by decide) ?_
  rintro sv H' G' ⟨rfl, rfl, rfl⟩ -
  refine ⟨Nat.le_of_ble_eq_true rfl, ?_⟩
  repeat' ((fail_if_success with_reducible refine Stop.mk ?_); (conv => whnf); with_reducible first | refine br_t ?_ | refine br_f ?_ | refine br_nn ?_ | refine br_ns ?_ | refine br_not ?_ | refine br_d (fun h => ?_) (fun h => ?_) | refine br_e (fun h => ?_) (fun h => ?_) | refine br_n (fun h => ?_) (fun h => ?_) | refine drw_fast (by kernel_rfl) ?_ | refine chk (by kernel_rfl) ?_ | refine stop ?_)
  all_goals refine Stop.mk ?_
  refine fin_id hE 0 rfl rfl rfl rfl ⟨congrArg (fun e => SV.v (.bool e)) ?_, rfl⟩
  dsimp only
  rw [i64_in (n := x1 + x2) (by omega) (by omega), i64_in (n := x1 + x2 + x3) (by omega) (by omega)]
  exact beq_self_eq_true _
end Go.Proofs.Ytkhajngpcgmpnaa.Cu
