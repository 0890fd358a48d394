/- Functions of machines: what is read. -/
import Derived.Test.YtchebkpcgglllaaGreatFu6
namespace Go.Proofs.YtchebkpcgglllaaGreat.Cu
open Go Go.SX Go.Proofs.YtchebkpcgglllaaGreat.VT
set_option maxRecDepth 100000
set_option linter.unusedVariables false
set_option linter.unusedSimpArgs false

theorem sMBlks_suf (regs slots n : Int) (p : Ps) : (sMBlks regs slots n p).2.1 <:+ p.1 := rep_suf (fun t p => sMBlkF_suf regs slots n t p) _ _ _
theorem sMHead_suf (p : Ps) : (sMHead p).2.1 <:+ p.1 := by
  unfold sMHead
  dsimp only
  split
  · exact (sUint_suf _ _).trans ((sUint_suf _ _).trans (sUint_suf _ _))
  · exact (sUint_suf _ _).trans ((sUint_suf _ _).trans (sUint_suf _ _))
theorem sMBody_suf (regs slots : Int) (p : Ps) : (sMBody regs slots p).2.1 <:+ p.1 := (sMBlks_suf _ _ _ _).trans (cntC_suf _ _ _ _ _)
/-- What a reader of functions comes to. -/
def MFnPost (A : Option Addr) (bs : List Int) (c : Nat) (r : MFn × Ps) (sv : SV) (H' : List Ob) (G' : Gh) : Prop := ∃ B d, sv = mfnS B d r.1 ∧ kMBlk.S G' B d r.1.blocks ∧ H' = [curL A bs c r.2]
set_option maxHeartbeats 8000000 in
theorem mfunc_fn {G : Gh} {A : Option Addr} {bs : List Int} {c : Nat} {p : Ps} (hC : CurOK G A c bs p) :
    Ct Tryz.prog 31 [.p 0 0] [curL A bs c p] G (MFnPost A bs c (sMFnR p)) := by
  have hra := sUint_range (most := 1048576) hC.isb
  have hCa := hC.next (sUint_suf 1048576 p)
  have hrr := sUint_range (most := 1048576) hCa.isb
  have hCr := hCa.next (sUint_suf 1048576 (sUint 1048576 p).2)
  have hrs := sUint_range (most := 1048576) hCr.isb
  obtain ⟨q, hq⟩ : ∃ q, q = sMHead p := ⟨_, rfl⟩
  have hq1 : q.1 = ((sUint 1048576 p).1, (sUint 1048576 (sUint 1048576 p).2).1, (sUint 1048576 (sUint 1048576 (sUint 1048576 p).2).2).1) := by rw [hq]; rfl
  have hCq : CurOK G A c bs q.2 := by rw [hq]; exact hC.next (sMHead_suf p)
  have hfn : sMFnR p = (if (sMBody q.1.2.1 q.1.2.2 q.2).2.2 = 0 then ⟨q.1.1, q.1.2.1, q.1.2.2, (sMBody q.1.2.1 q.1.2.2 q.2).1.2⟩ else mfn0, (sMBody q.1.2.1 q.1.2.2 q.2).2) := by rw [hq]; rfl
  refine fn_of follows [(1, (.cons 0 [] (.cons 2 [] (.cons 4 [] (.alt (.cons 1 [] (.alt (.cons 3 [] (.alt (.cons 5 [] (.cons 6 [] (.cons 7 [] (.cons 8 [] .nil)))) (.cons 7 [] (.cons 5 [] (.cons 6 [] (.cons 8 [] .nil)))))) (.cons 7 [] (.cons 3 [] (.cons 5 [] (.cons 6 [] (.cons 8 [] .nil))))))) (.cons 7 [] (.cons 1 [] (.cons 3 [] (.cons 5 [] (.cons 6 [] (.cons 8 [] .nil)))))))))))] Tryz.func31 rfl rfl fun E hE => ?_
  repeat' ((fail_if_success with_reducible refine Stop.mk ?_);(conv=>whnf);with_reducible first|refine drw (by kernel_rfl) ?_|refine stop ?_)
  all_goals refine Stop.mk ?_
  refine And.intro ?_ ?_
  all_goals
    repeat' ((fail_if_success with_reducible refine Stop.mk ?_);(conv=>whnf);with_reducible refine stop ?_)
    all_goals refine Stop.mk ?_
  all_goals
    refine call_fn [0] (fsize_fn hC) rfl ⟨rfl, trivial⟩ (by decide) ?_
    rintro sv H' G' ⟨rfl, rfl, rfl⟩ -
    refine ⟨Nat.le_of_ble_eq_true rfl, ?_⟩
    repeat' ((fail_if_success with_reducible refine Stop.mk ?_);(conv=>whnf);with_reducible refine stop ?_)
    all_goals refine Stop.mk ?_
  all_goals try refine And.intro ?_ ?_
  all_goals try
    repeat' ((fail_if_success with_reducible refine Stop.mk ?_);(conv=>whnf);with_reducible refine stop ?_)
    all_goals refine Stop.mk ?_
  all_goals
    refine call_fn [0] (fsize_fn hCa) rfl ⟨rfl, trivial⟩ (by decide) ?_
    rintro sv H' G' ⟨rfl, rfl, rfl⟩ -
    refine ⟨Nat.le_of_ble_eq_true rfl, ?_⟩
    repeat' ((fail_if_success with_reducible refine Stop.mk ?_);(conv=>whnf);with_reducible refine stop ?_)
    all_goals refine Stop.mk ?_
  all_goals try refine And.intro ?_ ?_
  all_goals try
    repeat' ((fail_if_success with_reducible refine Stop.mk ?_);(conv=>whnf);with_reducible refine stop ?_)
    all_goals refine Stop.mk ?_
  all_goals
    refine call_fn [0] (fsize_fn hCr) rfl ⟨rfl, trivial⟩ (by decide) ?_
    rintro sv H' G' ⟨rfl, rfl, rfl⟩ -
    refine ⟨Nat.le_of_ble_eq_true rfl, ?_⟩
    repeat' ((fail_if_success with_reducible refine Stop.mk ?_);(conv=>whnf);with_reducible first|refine br_d (fun h=>?_) fun h=>?_|refine stop ?_)
    all_goals refine Stop.mk ?_
  all_goals try refine And.intro ?_ ?_
  all_goals try
    repeat' ((fail_if_success with_reducible refine Stop.mk ?_);(conv=>whnf);with_reducible refine stop ?_)
    all_goals refine Stop.mk ?_
  all_goals try
    refine call_fn [0] (pfail_fn 10 (p := (sUint 1048576 (sUint 1048576 (sUint 1048576 p).2).2).2)) rfl ⟨rfl, trivial⟩ (by decide) ?_
    rintro sv H' G' ⟨rfl, rfl, rfl⟩ -
    refine ⟨Nat.le_of_ble_eq_true rfl, ?_⟩
    have hq2 : sFail 10 (sUint 1048576 (sUint 1048576 (sUint 1048576 p).2).2).2 = q.2 := by rw [hq]; unfold sMHead; dsimp only; rw [if_pos (by assumption)]
    rw [hq2]
    repeat' ((fail_if_success with_reducible refine Stop.mk ?_);(conv=>whnf);with_reducible refine stop ?_)
    all_goals refine Stop.mk ?_
  all_goals try
    have hq2 : (sUint 1048576 (sUint 1048576 (sUint 1048576 p).2).2).2 = q.2 := by rw [hq]; unfold sMHead; dsimp only; rw [if_neg (by assumption)]
    rw [hq2]
  all_goals
    clear hq2 h
    have e1 : (sUint 1048576 p).1 = q.1.1 := by rw [hq1]
    have e2 : (sUint 1048576 (sUint 1048576 p).2).1 = q.1.2.1 := by rw [hq1]
    have e3 : (sUint 1048576 (sUint 1048576 (sUint 1048576 p).2).2).1 = q.1.2.2 := by rw [hq1]
    rw [e1] at hra ⊢
    rw [e2] at hrr ⊢
    rw [e3] at hrs ⊢
    clear e1 e2 e3 hq1 hq
    refine call_gh (gh_birthC 3 3 63 5 rfl rfl) (mblocks_fn q.1.1 q.1.2.1 q.1.2.2 hCq ⟨by omega, by omega⟩).enters ?_
    rintro g s' ⟨rfl, rfl⟩
    refine call_fn [0, 1, 3, 4, 5] (mblocks_fn q.1.1 q.1.2.1 q.1.2.2 hCq ⟨by omega, by omega⟩) rfl ⟨rfl, rfl, rfl, rfl, rfl, trivial⟩ (by decide) ?_
    rintro sv H' G' ⟨rfl, vals, rfl, hv⟩ hg
    replace hCq := (hCq.to hg).next (sMBody_suf q.1.2.1 q.1.2.2 q.2)
    clear hg
    refine ⟨Nat.le_of_ble_eq_true rfl, ?_⟩
    generalize sMBody q.1.2.1 q.1.2.2 q.2 = bd at *
    obtain ⟨⟨n, bl⟩, pf⟩ := bd
    dsimp only at hfn hv hCq
    repeat' ((fail_if_success with_reducible refine Stop.mk ?_);(conv=>whnf);with_reducible refine stop ?_)
    all_goals refine Stop.mk ?_
    refine call_fn [0] (perr_fn (p := pf)) rfl ⟨rfl, trivial⟩ (by decide) ?_
    rintro sv H' G' ⟨rfl, rfl, rfl⟩ -
    refine ⟨Nat.le_of_ble_eq_true rfl, ?_⟩
    repeat' ((fail_if_success with_reducible refine Stop.mk ?_);(conv=>whnf);with_reducible first|refine br_n (fun h=>?_) fun h=>?_|refine stop ?_)
    all_goals refine Stop.mk ?_
  all_goals
    first
      | (have h0 : pf.2 ≠ 0 := by assumption
         refine fin_id hE 1 rfl rfl rfl rfl ?_
         rw [hfn, if_neg h0]
         exact ⟨none, 0, rfl, Kd.S.none_ _ _, rfl⟩)
      | (have h0 : pf.2 = 0 := by assumption
         refine fin_done 5 rfl hv.ones fun A2 c2 G2 hg hs => fin_id hE 1 rfl rfl rfl rfl ?_
         rw [hfn, if_pos h0]
         exact ⟨A2, c2, rfl, Kd.S.of hs rfl rfl (hv.to hg), rfl⟩)
end Go.Proofs.YtchebkpcgglllaaGreat.Cu
