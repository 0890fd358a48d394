/- FuLx: FuL, FuM, FuN in one text. -/
import Derived.Test.YtchebkpcgglllaaGreatFu4
import Derived.Test.YtchebkpcgglllaaGreatNux
import Derived.Test.YtchebkpcgglllaaGreatFu5
import Derived.Test.YtchebkpcgglllaaGreatSXc
import Derived.Test.YtchebkpcgglllaaGreatFu7
namespace Go.Proofs.YtchebkpcgglllaaGreat.Cu
open Go Go.SX Go.Proofs.YtchebkpcgglllaaGreat.VT
set_option maxRecDepth 100000
set_option linter.unusedVariables false
set_option linter.unusedSimpArgs false
theorem ct_mono {P : Program} {f : FuncId} {args : List SV} {H : List Ob} {G : Gh} {Post Post' : SV → List Ob → Gh → Prop} (h : Ct P f args H G Post)
    (hf : ∀ sv H' G', Post sv H' G' → Post' sv H' G') : Ct P f args H G Post' := by
  refine ⟨h.enters, fun ρ w ys hA hargs => (h.calls ρ w ys hA hargs).mono fun e w' hh => ?_⟩
  obtain ⟨v, sv, H', G', ρ', rfl, hp, hA', hr⟩ := hh
  exact ⟨v, sv, H', G', ρ', rfl, hf _ _ _ hp, hA', hr⟩
/-- A size is a number below a bound. -/
theorem sUint_num {p : Ps} (hb : isB p.1) :
    (sUint 1048576 p).1 = (sNum 1048577 6 p).1 ∧ (sUint 1048576 p).2.2 = (sNum 1048577 6 p).2.2 ∧ ((sNum 1048577 6 p).2.2 = 0 → sUint 1048576 p = sNum 1048577 6 p) := by
  obtain ⟨l, e⟩ := p
  by_cases he : e = 0
  · subst he
    have hn : sNum 1048577 6 (l, 0) = if (1048577 : Int) ≤ (sUint maxU (l, 0)).1 then (0, sFail 6 (sUint maxU (l, 0)).2) else sUint maxU (l, 0) := rfl
    rw [sUint_max' hb] at hn
    have hu : sUint 1048576 (l, 0) = if whyU 1048576 (vdec 0 l) = 0 then ((vdec 0 l).1, (l.drop (vdec 0 l).2.1.toNat, 0)) else (0, (l, whyU 1048576 (vdec 0 l))) := rfl
    unfold whyU at hu
    rcases vdec_form hb with ⟨x, hx, hv⟩ | ⟨n, m, hv, h3, h4, h5, h6, h7⟩
    · rw [hv] at hn hu
      dsimp only at hn hu
      rw [if_neg (show ¬ x = 0 by omega)] at hn
      dsimp only at hn
      rw [if_neg (show ¬ (1048577 : Int) ≤ 0 by decide)] at hn
      rw [if_neg (show ¬ (x = 0 ∧ (0 : Int) > 1048576) by omega), if_neg (show ¬ x = 0 by omega)] at hu
      rw [hn, hu]
      exact ⟨rfl, rfl, fun _ => rfl⟩
    · dsimp only at hv h5
      rw [hv] at hn hu
      dsimp only at hn hu
      rw [if_pos rfl] at hn
      dsimp only at hn
      by_cases hbig : (1048577 : Int) ≤ n
      · rw [if_pos hbig] at hn
        rw [if_pos (show (0 : Int) = 0 ∧ (n : Int) > 1048576 by omega), if_neg (by decide)] at hu
        rw [hn, hu]
        have h6' : (sFail 6 (l.drop m, 0)).2 = 6 := by unfold sFail failE; rw [if_pos rfl]
        refine ⟨rfl, ?_, fun h => absurd h ?_⟩
        · dsimp only; rw [Int.toNat_natCast, h6']
        · dsimp only; rw [Int.toNat_natCast, h6']; decide
      · rw [if_neg hbig] at hn
        rw [if_neg (show ¬ ((0 : Int) = 0 ∧ (n : Int) > 1048576) by omega), if_pos rfl] at hu
        rw [hn, hu]
        exact ⟨rfl, rfl, fun _ => rfl⟩
  · have h1 : sNum 1048577 6 (l, e) = (0, (l, e)) := sNum_err (p := (l, e)) he
    have h2 : sUint 1048576 (l, e) = (0, (l, e)) := sUint_err (p := (l, e)) he
    rw [h1, h2]
    exact ⟨rfl, rfl, fun _ => rfl⟩
theorem r18Size_fn' {G : Gh} {A : Option Addr} {c : Nat} {p r : Ps} (h : RIn G A c p r) (hb : isB p.1) :
    Ct Tryz.prog 80 [inS A c r] [] G (RPost G (.v (.int .i64 (sUint 1048576 p).1)) (sUint 1048576 p).2) := by
  obtain ⟨h1, h2, h3⟩ := sUint_num hb
  refine ct_mono (r18Size_fn h) ?_
  rintro sv H' G' ⟨A1, c1, r1, rfl, hR, rfl, rfl⟩
  refine ⟨A1, c1, r1, by rw [h1], ?_, rfl, rfl⟩
  rcases Decidable.em ((sNum 1048577 6 p).2.2 = 0) with h4 | h4
  · rw [h3 h4]; exact hR
  · exact hR.errs h4 h2
theorem rblocks_fn {G : Gh} {A : Option Addr} {c : Nat} {p r : Ps} (h : RIn G A c p r) (hb : isB p.1) :
    Ct Tryz.prog 82 [inS A c r] [] G (RPost G (.v (.int .i64 (cntB p).1)) (cntB p).2) := by
  have hcb : cntB p = ((sCount 1048576 3 p).1, if (sCount 1048576 3 p).1 ≠ 0 then (sCount 1048576 3 p).2 else sFail 14 (sCount 1048576 3 p).2) := by
    unfold cntB cntC
    simp only [decide_eq_true_eq]
  refine fn_of follows [(4, (.cons 0 [] (.cons 1 [] (.cons 2 [] (.cons 3 [1] .nil)))))] Tryz.func82 rfl rfl fun E hE => ?_
  repeat' ((fail_if_success with_reducible refine Stop.mk ?_);(conv=>whnf);with_reducible refine stop ?_)
  all_goals refine Stop.mk ?_
  refine call_fn [] (r18Count_fn 3 h hb (by decide)) rfl trivial (by decide) ?_
  rintro sv H' G' ⟨B1, d1, r1, rfl, hR1, rfl, rfl⟩ -
  refine ⟨Nat.le_of_ble_eq_true rfl, ?_⟩
  repeat' ((fail_if_success with_reducible refine Stop.mk ?_);(conv=>whnf);with_reducible first|refine br_e (fun h=>?_) fun h=>?_|refine drw (by kernel_rfl) ?_|refine stop ?_)
  all_goals refine Stop.mk ?_
  · refine call_fn [] (r18Fail_fn 14 hR1 (by decide)) rfl trivial (by decide) ?_
    rintro sv H' G' ⟨B2, d2, r2, rfl, hR2, rfl, rfl⟩ -
    refine ⟨Nat.le_of_ble_eq_true rfl, ?_⟩
    repeat' ((fail_if_success with_reducible refine Stop.mk ?_);(conv=>whnf);with_reducible refine stop ?_)
    all_goals refine Stop.mk ?_
    have h0 : (sCount 1048576 3 p).1 = 0 := by assumption
    refine fin_id hE 0 rfl rfl rfl rfl ?_
    rw [hcb, if_neg (by rw [h0]; simp), h0]
    exact ⟨B2, d2, r2, rfl, hR2, rfl, rfl⟩
  · have h0 : (sCount 1048576 3 p).1 ≠ 0 := by assumption
    refine fin_id hE 0 rfl rfl rfl rfl ?_
    rw [hcb, if_pos h0]
    exact ⟨B1, d1, r1, rfl, hR1, rfl, rfl⟩
theorem rcode_fn {G : Gh} {A : Option Addr} {c : Nat} {p r : Ps} (t : Int) (hI : RIn G A c p r) (hb : isB p.1) (ht : 0 ≤ t ∧ t ≤ 1048576) :
    Ct Tryz.prog 83 [inS A c r, .v (.int .i64 t)] [] G fun sv H' G' => ∃ v : Int, (0 ≤ v ∧ v ≤ 1048576) ∧ RPost G (.v (.int .i64 v)) (cntI t p).2 sv H' G' ∧ ((cntI t p).2.2 = 0 → v = (cntI t p).1 ∧ t + v ≤ 1048576) := by
  have hcb : cntI t p = ((sCount 1048576 2 p).1, if t + (sCount 1048576 2 p).1 ≤ 1048576 then (sCount 1048576 2 p).2 else sFail 6 (sCount 1048576 2 p).2) := by
    unfold cntI cntC
    simp only [decide_eq_true_eq]
  have hcr := sCount_range (most := 1048576) (size := 2) hb (by decide)
  have hw : IntKind.i64.wrap (t + (sCount 1048576 2 p).1) = t + (sCount 1048576 2 p).1 := i64_in (by omega) (by omega)
  refine fn_of follows [(4, (.cons 0 [] (.cons 1 [] (.cons 2 [] (.cons 3 [1] .nil)))))] Tryz.func83 rfl rfl fun E hE => ?_
  repeat' ((fail_if_success with_reducible refine Stop.mk ?_);(conv=>whnf);with_reducible refine stop ?_)
  all_goals refine Stop.mk ?_
  refine call_fn [] (r18Count_fn 2 hI hb (by decide)) rfl trivial (by decide) ?_
  rintro sv H' G' ⟨B1, d1, r1, rfl, hR1, rfl, rfl⟩ -
  refine ⟨Nat.le_of_ble_eq_true rfl, ?_⟩
  repeat' ((fail_if_success with_reducible refine Stop.mk ?_);(conv=>whnf);with_reducible first|refine br_d (fun h=>?_) fun h=>?_|refine drw (by kernel_rfl) ?_|refine stop ?_)
  all_goals refine Stop.mk ?_
  all_goals rw [hw] at h
  · refine call_fn [] (r18Fail_fn 6 hR1 (by decide)) rfl trivial (by decide) ?_
    rintro sv H' G' ⟨B2, d2, r2, rfl, hR2, rfl, rfl⟩ -
    refine ⟨Nat.le_of_ble_eq_true rfl, ?_⟩
    repeat' ((fail_if_success with_reducible refine Stop.mk ?_);(conv=>whnf);with_reducible refine stop ?_)
    all_goals refine Stop.mk ?_
    refine fin_id hE 0 rfl rfl rfl rfl ⟨0, by decide, ?_⟩
    rw [hcb, if_neg (by omega)]
    exact ⟨⟨B2, d2, r2, rfl, hR2, rfl, rfl⟩, fun h9 => absurd h9 (sFail_ne (by decide))⟩
  · refine fin_id hE 0 rfl rfl rfl rfl ⟨(sCount 1048576 2 p).1, by omega, ?_⟩
    rw [hcb, if_pos (by omega)]
    exact ⟨⟨B1, d1, r1, rfl, hR1, rfl, rfl⟩, fun _ => ⟨rfl, by omega⟩⟩
end Go.Proofs.YtchebkpcgglllaaGreat.Cu

namespace Go.Proofs.YtchebkpcgglllaaGreat.Cu
open Go Go.SX Go.Proofs.YtchebkpcgglllaaGreat.VT
set_option maxRecDepth 100000
set_option linter.unusedVariables false
set_option linter.unusedSimpArgs false
/-- What the reference's reader of functions comes to. -/
def RFnPost (r : Fn × Ps) (sv : SV) (H' : List Ob) (G' : Gh) : Prop := ∃ B d A c i, sv = .tup [fnS B d r.1, inS A c i] ∧ kBlk.S G' B d r.1.blocks ∧ RIn G' A c r.2 i ∧ H' = []
def inO (A : Option Addr) (c : Nat) (r : Ps) : Ob := .cells 85 [.v (.slice A r.1.length c), .v (.int .i64 r.2)]
set_option maxHeartbeats 8000000 in
theorem rfunc_fn {G : Gh} {A : Option Addr} {c : Nat} {p r : Ps} (hI : RIn G A c p r) (hb : isB p.1) :
    Ct Tryz.prog 35 [inS A c r] [] G (RFnPost (sFnR p)) := by
  have hra := sUint_range (most := 1048576) hb
  have hba := isB_sub hb (sUint_suf 1048576 p)
  have hrr := sUint_range (most := 1048576) hba
  have hbr := isB_sub hba (sUint_suf 1048576 (sUint 1048576 p).2)
  obtain ⟨q, hq⟩ : ∃ q, q = sHead p := ⟨_, rfl⟩
  have hq1 : q.1 = ((sUint 1048576 p).1, (sUint 1048576 (sUint 1048576 p).2).1) := by rw [hq]; rfl
  have hbq : isB q.2.1 := isB_sub hb (by rw [hq]; exact sHead_suf p)
  have hfn : sFnR p = (if (sBody q.1.2 q.2).2.2 = 0 then ⟨q.1.1, q.1.2, (sBody q.1.2 q.2).1.2⟩ else fn0, (sBody q.1.2 q.2).2) := by rw [hq]; rfl
  refine fn_of follows [(25, (.cons 0 [] (.cons 1 [] (.cons 2 [] (.cons 3 [1] .nil))))), (26, (.cons 0 [] (.cons 1 [] (.cons 2 [0] (.cons 3 [0, 1] .nil)))))] Tryz.func35 rfl rfl fun E hE => ?_
  repeat' ((fail_if_success with_reducible refine Stop.mk ?_);(conv=>whnf);with_reducible refine stop ?_)
  all_goals refine Stop.mk ?_
  refine call_fn [] (r18Size_fn' hI hb) rfl trivial (by decide) ?_
  rintro sv H' G' ⟨B1, d1, r1, rfl, hR1, rfl, rfl⟩ -
  refine ⟨Nat.le_of_ble_eq_true rfl, ?_⟩
  repeat' ((fail_if_success with_reducible refine Stop.mk ?_);(conv=>whnf);with_reducible refine stop ?_)
  all_goals refine Stop.mk ?_
  refine call_fn [] (r18Size_fn' hR1 hba) rfl trivial (by decide) ?_
  rintro sv H' G' ⟨B2, d2, r2, rfl, hR2, rfl, rfl⟩ -
  refine ⟨Nat.le_of_ble_eq_true rfl, ?_⟩
  repeat' ((fail_if_success with_reducible refine Stop.mk ?_);(conv=>whnf);with_reducible first|refine br_d (fun h=>?_) fun h=>?_|refine stop ?_)
  all_goals refine Stop.mk ?_
  focus
    refine call_fn [] (r18Fail_fn 9 hR2 (by decide)) rfl trivial (by decide) ?_
    rintro sv H' G' ⟨B3, d3, r3, rfl, hR3, rfl, rfl⟩ -
    have hq2 : sFail 9 (sUint 1048576 (sUint 1048576 p).2).2 = q.2 := by rw [hq]; unfold sHead; dsimp only; rw [if_pos (by assumption)]
    rw [hq2] at hR3
    refine ⟨Nat.le_of_ble_eq_true rfl, ?_⟩
    repeat' ((fail_if_success with_reducible refine Stop.mk ?_);(conv=>whnf);with_reducible refine stop ?_)
    all_goals refine Stop.mk ?_
    have hqe : q.2.2 ≠ 0 := by rw [← hq2]; exact sFail_ne (by decide)
    have hce : sCount 1048576 3 q.2 = (0, q.2) := sCount_err hqe
    have hcz : (cntB q.2).1 = 0 := by unfold cntB cntC; rw [hce]
    have hcq := cntB_st hqe
    refine call_fn [] (rblocks_fn hR3 hbq) rfl trivial (by decide) ?_
    rintro sv H' G' ⟨B4, d4, r4, rfl, hR4, rfl, rfl⟩ -
    rw [hcz]
    refine ⟨Nat.le_of_ble_eq_true rfl, ?_⟩
    repeat' ((fail_if_success with_reducible refine Stop.mk ?_);(conv=>whnf);with_reducible refine stop ?_)
    all_goals refine Stop.mk ?_
    have he4 : r4.2 ≠ 0 := by rw [hR4.he, hcq]; exact hqe
    refine loop_unroll follows [(25, (.cons 0 [] (.cons 1 [] (.cons 2 [] (.cons 3 [1] .nil))))), (26, (.cons 0 [] (.cons 1 [] (.cons 2 [0] (.cons 3 [0, 1] .nil)))))] 1 ?_
    repeat' ((fail_if_success with_reducible refine Stop.mk ?_);(conv=>whnf);first|with_reducible refine br_f ?_|((with_reducible refine br_d (fun h=>?_) fun h=>?_) <;> try (exfalso; omega))|((with_reducible refine br_n (fun h=>?_) fun h=>?_) <;> try (exfalso; omega))|with_reducible refine drw (by kernel_rfl) ?_|with_reducible refine stop ?_)
    all_goals refine Stop.mk ?_
    refine fin_id hE 0 rfl rfl rfl rfl ?_
    have hsb : sBlks q.1.2 (cntB q.2).1 (cntB q.2).2 = ([], (cntB q.2).2) := by rw [hcz]; rfl
    have hbd : sBody q.1.2 q.2 = ((0, []), (cntB q.2).2) := by unfold sBody; rw [hsb, hcz]
    rw [hfn, hbd]
    dsimp only
    rw [if_neg (by rw [hcq]; exact hqe)]
    exact ⟨none, 0, B4, d4, r4, rfl, Kd.S.none_ _ _, hR4, rfl⟩
  have hq2 : (sUint 1048576 (sUint 1048576 p).2).2 = q.2 := by rw [hq]; unfold sHead; dsimp only; rw [if_neg (by assumption)]
  have hRq := hR2
  rw [hq2] at hRq
  clear hq2 h hR1 hR2 hI
  have e1 : (sUint 1048576 p).1 = q.1.1 := by rw [hq1]
  have e2 : (sUint 1048576 (sUint 1048576 p).2).1 = q.1.2 := by rw [hq1]
  rw [e1] at hra ⊢
  rw [e2] at hrr ⊢
  clear e1 e2 hq1 hq
  generalize q.1.1 = a at *
  generalize q.1.2 = regs at *
  generalize q.2 = pq at *
  refine call_fn [] (rblocks_fn hRq hbq) rfl trivial (by decide) ?_
  rintro sv H' G' ⟨B4, d4, r4, rfl, hR4, rfl, rfl⟩ -
  refine ⟨Nat.le_of_ble_eq_true rfl, ?_⟩
  have hcr := sCount_range (most := 1048576) (size := 3) hbq (by decide)
  have hbn : isB (cntB pq).2.1 := isB_sub hbq (cntC_suf _ _ _ _ _)
  have hbody : sBody regs pq = (((cntB pq).1, (sBlks regs (cntB pq).1 (cntB pq).2).1), (sBlks regs (cntB pq).1 (cntB pq).2).2) := rfl
  have hn1 : (cntB pq).1 = (sCount 1048576 3 pq).1 := rfl
  rw [← hn1] at hcr
  rw [hbody] at hfn
  clear hbody hn1 hRq
  dsimp only at hfn
  generalize cntB pq = qn at *
  repeat' ((fail_if_success with_reducible refine Stop.mk ?_);(conv=>whnf);with_reducible refine stop ?_)
  all_goals refine Stop.mk ?_
  refine loop_gh (gh_birthC 3 2 60 5 rfl rfl) ?_
  rintro _ _ ⟨rfl, rfl⟩
  refine loop_vars follows [(25, (.cons 0 [] (.cons 1 [] (.cons 2 [] (.cons 3 [1] .nil))))), (26, (.cons 0 [] (.cons 1 [] (.cons 2 [0] (.cons 3 [0, 1] .nil)))))] (α := Nat × Int × Ps × List Blk × List Value × Gh × Option Addr × Nat × Ps) (fun x => [(6, .v (.int .i64 x.2.1)), (7, .v (.int .i64 x.1))])
    (fun x => [inO x.2.2.2.2.2.2.1 x.2.2.2.2.2.2.2.1 x.2.2.2.2.2.2.2.2, .cells 25 [.v (.int .i64 0), .v (.int .i64 0), .v (.slice none 0 0)], inO none 0 ([], 0), .cells 25 [.v (.int .i64 a), .v (.int .i64 regs), .s 4], .row 60 5 x.1 x.2.2.2.2.1]) (fun x => x.2.2.2.2.2.1)
    (fun x => x.1 ≤ qn.1.toNat ∧ RIn x.2.2.2.2.2.1 x.2.2.2.2.2.2.1 x.2.2.2.2.2.2.2.1 x.2.2.1 x.2.2.2.2.2.2.2.2 ∧ isB x.2.2.1.1 ∧ x.2.2.2.1.length = x.1 ∧ kBlk.Cs x.2.2.2.2.2.1 x.2.2.2.1 x.2.2.2.2.1 ∧ Run (sBlkF regs qn.1) nxB qn.1.toNat 0 qn.2 x.1 x.2.1 x.2.2.1 x.2.2.2.1 ∧ (x.2.2.1.2 = 0 → 0 ≤ x.2.1 ∧ x.2.1 ≤ 1048576))
    (fun x => qn.1.toNat - x.1) (0, 0, qn.2, [], [], _, B4, d4, r4)
    ⟨Nat.zero_le _, hR4, hbn, rfl, Kd.Cs.nil _ _, Run.start _ _ _, fun _ => ⟨Int.le_refl _, by dsimp only; decide⟩⟩ rfl rfl ?_ ?_
  ·
    refine ⟨?_⟩
    (conv => whnf)
    (repeat' (first | exact trivial | exact .inl rfl | exact .inr rfl | refine And.intro ?_ ?_))
  clear hR4 hbn
  rintro ⟨k, t, p1, os, vals, Gk, A1, c1, ri⟩ ⟨hk, hR, hpb, hol, hvals, hrun, ht⟩
  dsimp only at hk hR hpb hol hvals hrun ht ⊢
  have hw2 : IntKind.i64.wrap ((k : Int) + 1) = ((k + 1 : Nat) : Int) := by rw [i64_in (by omega) (by omega)]; simp
  have hexit : ∀ (hd : qn.1.toNat ≤ k ∨ p1.2 ≠ 0), sBlks regs qn.1 qn.2 = (os, p1) := fun hd => hrun.done hd
  have he1 := hR.he
  repeat' ((fail_if_success with_reducible refine Stop.mk ?_);(conv=>whnf);with_reducible first|refine br_f ?_|refine br_d (fun h=>?_) fun h=>?_|refine br_e (fun h=>?_) fun h=>?_|refine br_n (fun h=>?_) fun h=>?_|refine drw (by kernel_rfl) ?_|refine stop ?_)
  all_goals refine Stop.mk ?_
  · have hp0 : p1.2 = 0 := by rw [← he1]; assumption
    have hkk0 : k < qn.1.toNat := by omega
    obtain ⟨ht1, ht2⟩ := ht hp0
    refine call_fn [] (rcode_fn t hR hpb ⟨ht1, ht2⟩) rfl trivial (by decide) ?_
    rintro sv H' G' ⟨v, hv1, ⟨B5, d5, r5, rfl, hR5, rfl, rfl⟩, hv2⟩ -
    refine ⟨Nat.le_of_ble_eq_true rfl, ?_⟩
    have hw3 : IntKind.i64.wrap (t + v) = t + v := i64_in (by omega) (by omega)
    have hblk : sBlkF regs qn.1 t p1 = (⟨(sCode regs (cntI t p1).1 (cntI t p1).2).1, (sTrm regs qn.1 (sCode regs (cntI t p1).1 (cntI t p1).2).2).1⟩, (sTrm regs qn.1 (sCode regs (cntI t p1).1 (cntI t p1).2).2).2) := rfl
    have hbu : isB (cntI t p1).2.1 := isB_sub hpb (cntC_suf _ _ _ _ _)
    generalize cntI t p1 = u at *
    repeat' ((fail_if_success with_reducible refine Stop.mk ?_);(conv=>whnf);with_reducible refine stop ?_)
    all_goals refine Stop.mk ?_
    rw [hw3]
    clear hR
    refine loop_opq fun K0 hK0 => ?_
    refine loop_gh (gh_birthC 5 0 122 5 rfl rfl) ?_
    rintro _ _ ⟨rfl, rfl⟩
    refine loop_vars follows [(25, (.cons 0 [] (.cons 1 [] (.cons 2 [] (.cons 3 [1] .nil))))), (26, (.cons 0 [] (.cons 1 [] (.cons 2 [0] (.cons 3 [0, 1] .nil)))))] (α := Nat × Ps × List Ins × List Value × Option Addr × Nat × Ps) (fun x => [(10, .v (.int .i64 x.1))])
      (fun x => [inO x.2.2.2.2.1 x.2.2.2.2.2.1 x.2.2.2.2.2.2, .cells 25 [.v (.int .i64 0), .v (.int .i64 0), .v (.slice none 0 0)], inO none 0 ([], 0), .cells 25 [.v (.int .i64 a), .v (.int .i64 regs), .s 4], .row 60 5 k vals, .cells 60 [.s 6, .v (.int .i64 0), .v (.int .i64 0), .v (.int .i64 0), .v (.int .i64 0)], .row 122 5 x.1 x.2.2.2.1]) (fun x => G')
      (fun x => (u.2.2 = 0 → x.1 ≤ u.1.toNat) ∧ x.1 ≤ 2000000 ∧ RIn G' x.2.2.2.2.1 x.2.2.2.2.2.1 x.2.1 x.2.2.2.2.2.2 ∧ isB x.2.1.1 ∧ x.2.2.1.length = x.1 ∧ kIns.Cs G' x.2.2.1 x.2.2.2.1 ∧ Run (fun (_ : Unit) => sIns regs) nxU u.1.toNat () u.2 x.1 () x.2.1 x.2.2.1 ∧ (u.2.2 ≠ 0 → x.2.1.2 ≠ 0))
      (fun x => v.toNat - x.1) (0, u.2, [], [], B5, d5, r5)
      ⟨fun _ => Nat.zero_le _, Nat.zero_le _, hR5, hbu, rfl, Kd.Cs.nil _ _, Run.start _ _ _, fun h9 => h9⟩ rfl rfl ?_ ?_
    ·
      refine ⟨?_⟩
      (conv => whnf)
      (repeat' (first | exact trivial | exact .inl rfl | exact .inr rfl | refine And.intro ?_ ?_))
    clear hpb hR5 hbu
    rintro ⟨j, p2, cs, vals2, A2, c2, r2⟩ ⟨hj0, hjm, hR, hpb, hcl, hvals2, hrun2, hue⟩
    dsimp only at hj0 hjm hR hpb hcl hvals2 hrun2 hue ⊢
    have hw4 : IntKind.i64.wrap ((j : Int) + 1) = ((j + 1 : Nat) : Int) := by rw [i64_in (by omega) (by omega)]; simp
    have he2 := hR.he
    have hexit2 : ∀ (hd : v.toNat ≤ j ∨ p2.2 ≠ 0), sCode regs u.1 u.2 = (cs, p2) := fun hd => hrun2.done (by
      rcases Decidable.em (u.2.2 = 0) with h9 | h9
      · rw [← (hv2 h9).1]; exact hd
      · exact .inr (hue h9))
    repeat' ((fail_if_success with_reducible refine Stop.mk ?_);(conv=>whnf);with_reducible first|refine br_f ?_|refine br_d (fun h=>?_) fun h=>?_|refine br_e (fun h=>?_) fun h=>?_|refine stop ?_)
    all_goals refine Stop.mk ?_
    · have hp20 : p2.2 = 0 := by rw [← he2]; assumption
      have hu0 : u.2.2 = 0 := Classical.byContradiction fun h9 => hue h9 hp20
      obtain ⟨hvu, htv⟩ := hv2 hu0
      have hjj : j < u.1.toNat := by omega
      have hok := sIns_ok64 (regs := regs) hpb (by omega)
      have hnext := hrun2.next hjj hp20 (x := (sIns regs p2).1) (p' := (sIns regs p2).2) rfl () (fun _ => rfl)
      have hpb3 := isB_sub hpb (sIns_suf regs p2)
      refine call_fn [] (rins_fn regs hR hpb (by omega) (by omega)) rfl trivial (by decide) ?_
      rintro sv H' G' ⟨B6, d6, r6, rfl, hR6, rfl, rfl⟩ -
      refine ⟨Nat.le_of_ble_eq_true rfl, ?_⟩
      clear hR hpb
      generalize sIns regs p2 = xp at *
      obtain ⟨x, p3⟩ := xp
      dsimp only at hok hnext hpb3 hR6
      repeat' ((fail_if_success with_reducible refine Stop.mk ?_);(conv=>whnf);with_reducible refine stop ?_)
      all_goals refine Stop.mk ?_
      refine ⟨by simp [Value.oneCell'], ⟨by show (j + 1) * 40 ≤ _; omega, ?_⟩⟩
      repeat' ((fail_if_success with_reducible refine Stop.mk ?_);(conv=>whnf);with_reducible refine stop ?_)
      all_goals refine Stop.mk ?_
      rw [hw4]
      refine tell_gc hE [0, 1, 2, 3, 4, 5, 6] rfl rfl ?_
      (conv => whnf)
      refine tell_here ⟨(j + 1, p3, cs ++ [x], vals2 ++ i64s x.l, B6, d6, r6), ⟨fun _ => by show j + 1 ≤ _; omega, by show j + 1 ≤ _; omega, hR6, hpb3, by simp [hcl], hvals2.snoc ⟨rfl, hok⟩, hnext, fun h9 => absurd hu0 h9⟩, by show v.toNat - (j + 1) < v.toNat - j; omega, rfl, rfl, ?_⟩
      refine ⟨?_⟩
      (conv => whnf)
      (repeat' (first | exact trivial | exact .inl rfl | exact .inr rfl | refine And.intro ?_ ?_))
    all_goals
      have hsc := hexit2 (by first | exact .inl (by omega) | exact .inr (by rw [← he2]; assumption))
      refine Stop.mk (hK0 _ _ ?_)
      clear hK0
      repeat' ((fail_if_success with_reducible refine Stop.mk ?_);(conv=>whnf);with_reducible refine stop ?_)
      all_goals refine Stop.mk ?_
      have hst : (sTrm regs qn.1 p2).2.2 = 0 → p2.2 = 0 := fun h0 => Classical.byContradiction fun h9 => h9 (by rw [sTrm_st h9 (by omega) (by omega)] at h0; exact h0)
      have hful : p2.2 = 0 → cs.length = u.1.toNat ∧ u.2.2 = 0 := by
        intro h0
        have h8 := rep_full (f := fun (_ : Unit) => sIns regs) (nx := nxU) u.1.toNat () u.2
        rw [show rep (fun (_ : Unit) => sIns regs) nxU u.1.toNat () u.2 = (cs, p2) from hsc] at h8
        refine ⟨h8 h0, Classical.byContradiction fun h9 => h9 ?_⟩
        have h7 := sCode_st (regs := regs) (k := u.1) h9
        rw [hsc] at h7
        rw [← h7]; exact h0
      have htok := sTrm_ok64 (regs := regs) (blocks := qn.1) hpb (by omega) (by omega)
      have hpb3 := isB_sub hpb (sTrm_suf regs qn.1 p2)
      rw [hsc] at hblk
      dsimp only at hblk
      refine call_fn [] (rtrm_fn regs qn.1 hR (by omega) (by omega) (by omega) (by omega)) rfl trivial (by decide) ?_
      rintro sv H' G' ⟨B6, d6, r6, rfl, hR6, rfl, rfl⟩ -
      refine ⟨Nat.le_of_ble_eq_true rfl, ?_⟩
      clear hR hpb
      generalize sTrm regs qn.1 p2 = xp at *
      obtain ⟨tm, p3⟩ := xp
      dsimp only at hst htok hpb3 hR6 hblk
      repeat' ((fail_if_success with_reducible refine Stop.mk ?_);(conv=>whnf);with_reducible refine stop ?_)
      all_goals refine Stop.mk ?_
      refine And.intro hvals2.ones ?_
      intro Ax cx Gx hgx hsx _
      (conv => whnf)
      refine And.intro (by show (k + 1) * 56 ≤ _; omega) ?_
      replace hR6 := hR6.to hgx
      replace hvals := hvals.to hgx
      replace hvals2 := hvals2.to hgx
      have hSx : kIns.S Gx Ax cx cs := Kd.S.of hsx hcl.symm rfl hvals2
      clear hgx hsx
      repeat' ((fail_if_success with_reducible refine Stop.mk ?_);(conv=>whnf);with_reducible refine stop ?_)
      all_goals refine Stop.mk ?_
      rw [hw2]
      have hnx : p3.2 = 0 → t + v = nxB t ⟨cs, tm⟩ ∧ (0 ≤ t + v ∧ t + v ≤ 1048576) := by
        intro h0
        obtain ⟨h1, h2⟩ := hful (hst h0)
        have h3 := hv2 h2
        unfold nxB
        dsimp only
        omega
      refine tell_gc hE [0, 1, 2, 3, 4] rfl rfl ?_
      (conv => whnf)
      refine tell_here ⟨(k + 1, t + v, p3, os ++ [⟨cs, tm⟩], vals ++ (.slice Ax j cx :: i64s tm.l), _, B6, d6, r6), ⟨by show k + 1 ≤ _; omega, hR6, hpb3, by simp [hol], hvals.snoc ⟨Ax, cx, by rw [hcl], hSx, htok⟩, hrun.next hkk0 hp0 hblk _ (fun h0 => (hnx h0).1), fun h0 => (hnx h0).2⟩, by show qn.1.toNat - (k + 1) < qn.1.toNat - k; omega, rfl, rfl, ?_⟩
      refine ⟨?_⟩
      (conv => whnf)
      (repeat' (first | exact trivial | exact .inl rfl | exact .inr rfl | refine And.intro ?_ ?_))
  all_goals
    have he := hexit (by first | exact .inr (by rw [← he1]; assumption) | exact .inl (by omega))
    rw [he] at hfn
    dsimp only at hfn
    repeat' ((fail_if_success with_reducible refine Stop.mk ?_);(conv=>whnf);with_reducible refine stop ?_)
    all_goals refine Stop.mk ?_
  all_goals
    first
      | (have h0 : p1.2 ≠ 0 := by rw [← he1]; assumption
         refine fin_id hE 0 rfl rfl rfl rfl ?_
         rw [hfn, if_neg h0]
         exact ⟨none, 0, A1, c1, ri, rfl, Kd.S.none_ _ _, hR, rfl⟩)
      | (have h0 : p1.2 = 0 := by rw [← he1]; assumption
         refine fin_done 4 rfl hvals.ones fun A2 c2 G2 hg hs => fin_id hE 0 rfl rfl rfl rfl ?_
         rw [hfn, if_pos h0]
         exact ⟨A2, c2, A1, c1, ri, by rw [← hol]; rfl, Kd.S.of hs hol.symm rfl (hvals.to hg), hR.to hg, rfl⟩)
end Go.Proofs.YtchebkpcgglllaaGreat.Cu

namespace Go.Proofs.YtchebkpcgglllaaGreat.Cu
open Go Go.SX Go.Proofs.YtchebkpcgglllaaGreat.VT
set_option maxRecDepth 100000
set_option linter.unusedVariables false
set_option linter.unusedSimpArgs false
/-- What the reference's reader of machines' functions comes to. -/
def RMFnPost (r : MFn × Ps) (sv : SV) (H' : List Ob) (G' : Gh) : Prop := ∃ B d A c i, sv = .tup [mfnS B d r.1, inS A c i] ∧ kMBlk.S G' B d r.1.blocks ∧ RIn G' A c r.2 i ∧ H' = []
set_option maxHeartbeats 8000000 in
theorem rmfunc_fn {G : Gh} {A : Option Addr} {c : Nat} {p r : Ps} (hI : RIn G A c p r) (hb : isB p.1) :
    Ct Tryz.prog 37 [inS A c r] [] G (RMFnPost (sMFnR p)) := by
  have hra := sUint_range (most := 1048576) hb
  have hba := isB_sub hb (sUint_suf 1048576 p)
  have hrr := sUint_range (most := 1048576) hba
  have hbr := isB_sub hba (sUint_suf 1048576 (sUint 1048576 p).2)
  have hrs := sUint_range (most := 1048576) hbr
  have hbs := isB_sub hbr (sUint_suf 1048576 (sUint 1048576 (sUint 1048576 p).2).2)
  obtain ⟨q, hq⟩ : ∃ q, q = sMHead p := ⟨_, rfl⟩
  have hq1 : q.1 = ((sUint 1048576 p).1, (sUint 1048576 (sUint 1048576 p).2).1, (sUint 1048576 (sUint 1048576 (sUint 1048576 p).2).2).1) := by rw [hq]; rfl
  have hbq : isB q.2.1 := isB_sub hb (by rw [hq]; exact sMHead_suf p)
  have hfn : sMFnR p = (if (sMBody q.1.2.1 q.1.2.2 q.2).2.2 = 0 then ⟨q.1.1, q.1.2.1, q.1.2.2, (sMBody q.1.2.1 q.1.2.2 q.2).1.2⟩ else mfn0, (sMBody q.1.2.1 q.1.2.2 q.2).2) := by rw [hq]; rfl
  refine fn_of follows [(32, (.cons 0 [] (.cons 1 [] (.cons 2 [] (.cons 3 [1] .nil))))), (33, (.cons 0 [] (.cons 1 [] (.cons 2 [0] (.cons 3 [0, 1] .nil)))))] Tryz.func37 rfl rfl fun E hE => ?_
  repeat' ((fail_if_success with_reducible refine Stop.mk ?_);(conv=>whnf);with_reducible refine stop ?_)
  all_goals refine Stop.mk ?_
  refine call_fn [] (r18Size_fn' hI hb) rfl trivial (by decide) ?_
  rintro sv H' G' ⟨B1, d1, r1, rfl, hR1, rfl, rfl⟩ -
  refine ⟨Nat.le_of_ble_eq_true rfl, ?_⟩
  repeat' ((fail_if_success with_reducible refine Stop.mk ?_);(conv=>whnf);with_reducible refine stop ?_)
  all_goals refine Stop.mk ?_
  refine call_fn [] (r18Size_fn' hR1 hba) rfl trivial (by decide) ?_
  rintro sv H' G' ⟨B2, d2, r2, rfl, hR2, rfl, rfl⟩ -
  refine ⟨Nat.le_of_ble_eq_true rfl, ?_⟩
  repeat' ((fail_if_success with_reducible refine Stop.mk ?_);(conv=>whnf);with_reducible refine stop ?_)
  all_goals refine Stop.mk ?_
  refine call_fn [] (r18Size_fn' hR2 hbr) rfl trivial (by decide) ?_
  rintro sv H' G' ⟨B0, d0, r0, rfl, hR0, rfl, rfl⟩ -
  refine ⟨Nat.le_of_ble_eq_true rfl, ?_⟩
  repeat' ((fail_if_success with_reducible refine Stop.mk ?_);(conv=>whnf);with_reducible first|refine br_d (fun h=>?_) fun h=>?_|refine stop ?_)
  all_goals refine Stop.mk ?_
  focus
    refine call_fn [] (r18Fail_fn 10 hR0 (by decide)) rfl trivial (by decide) ?_
    rintro sv H' G' ⟨B3, d3, r3, rfl, hR3, rfl, rfl⟩ -
    have hq2 : sFail 10 (sUint 1048576 (sUint 1048576 (sUint 1048576 p).2).2).2 = q.2 := by rw [hq]; unfold sMHead; dsimp only; rw [if_pos (by assumption)]
    rw [hq2] at hR3
    refine ⟨Nat.le_of_ble_eq_true rfl, ?_⟩
    repeat' ((fail_if_success with_reducible refine Stop.mk ?_);(conv=>whnf);with_reducible refine stop ?_)
    all_goals refine Stop.mk ?_
    have hqe : q.2.2 ≠ 0 := by rw [← hq2]; exact sFail_ne (by decide)
    have hce : sCount 1048576 3 q.2 = (0, q.2) := sCount_err hqe
    have hcz : (cntB q.2).1 = 0 := by unfold cntB cntC; rw [hce]
    have hcq := cntB_st hqe
    refine call_fn [] (rblocks_fn hR3 hbq) rfl trivial (by decide) ?_
    rintro sv H' G' ⟨B4, d4, r4, rfl, hR4, rfl, rfl⟩ -
    rw [hcz]
    refine ⟨Nat.le_of_ble_eq_true rfl, ?_⟩
    repeat' ((fail_if_success with_reducible refine Stop.mk ?_);(conv=>whnf);with_reducible refine stop ?_)
    all_goals refine Stop.mk ?_
    have he4 : r4.2 ≠ 0 := by rw [hR4.he, hcq]; exact hqe
    refine loop_unroll follows [(32, (.cons 0 [] (.cons 1 [] (.cons 2 [] (.cons 3 [1] .nil))))), (33, (.cons 0 [] (.cons 1 [] (.cons 2 [0] (.cons 3 [0, 1] .nil)))))] 1 ?_
    repeat' ((fail_if_success with_reducible refine Stop.mk ?_);(conv=>whnf);first|with_reducible refine br_f ?_|((with_reducible refine br_d (fun h=>?_) fun h=>?_) <;> try (exfalso; omega))|((with_reducible refine br_n (fun h=>?_) fun h=>?_) <;> try (exfalso; omega))|with_reducible refine drw (by kernel_rfl) ?_|with_reducible refine stop ?_)
    all_goals refine Stop.mk ?_
    refine fin_id hE 0 rfl rfl rfl rfl ?_
    have hsb : sMBlks q.1.2.1 q.1.2.2 (cntB q.2).1 (cntB q.2).2 = ([], (cntB q.2).2) := by rw [hcz]; rfl
    have hbd : sMBody q.1.2.1 q.1.2.2 q.2 = ((0, []), (cntB q.2).2) := by unfold sMBody; rw [hsb, hcz]
    rw [hfn, hbd]
    dsimp only
    rw [if_neg (by rw [hcq]; exact hqe)]
    exact ⟨none, 0, B4, d4, r4, rfl, Kd.S.none_ _ _, hR4, rfl⟩
  have hq2 : (sUint 1048576 (sUint 1048576 (sUint 1048576 p).2).2).2 = q.2 := by rw [hq]; unfold sMHead; dsimp only; rw [if_neg (by assumption)]
  have hRq := hR0
  rw [hq2] at hRq
  clear hq2 h hR1 hR2 hR0 hI
  have e1 : (sUint 1048576 p).1 = q.1.1 := by rw [hq1]
  have e2 : (sUint 1048576 (sUint 1048576 p).2).1 = q.1.2.1 := by rw [hq1]
  have e3 : (sUint 1048576 (sUint 1048576 (sUint 1048576 p).2).2).1 = q.1.2.2 := by rw [hq1]
  rw [e1] at hra ⊢
  rw [e2] at hrr ⊢
  rw [e3] at hrs ⊢
  clear e1 e2 e3 hq1 hq
  generalize q.1.1 = a at *
  generalize q.1.2.1 = regs at *
  generalize q.1.2.2 = slots at *
  generalize q.2 = pq at *
  refine call_fn [] (rblocks_fn hRq hbq) rfl trivial (by decide) ?_
  rintro sv H' G' ⟨B4, d4, r4, rfl, hR4, rfl, rfl⟩ -
  refine ⟨Nat.le_of_ble_eq_true rfl, ?_⟩
  have hcr := sCount_range (most := 1048576) (size := 3) hbq (by decide)
  have hbn : isB (cntB pq).2.1 := isB_sub hbq (cntC_suf _ _ _ _ _)
  have hbody : sMBody regs slots pq = (((cntB pq).1, (sMBlks regs slots (cntB pq).1 (cntB pq).2).1), (sMBlks regs slots (cntB pq).1 (cntB pq).2).2) := rfl
  have hn1 : (cntB pq).1 = (sCount 1048576 3 pq).1 := rfl
  rw [← hn1] at hcr
  rw [hbody] at hfn
  clear hbody hn1 hRq
  dsimp only at hfn
  generalize cntB pq = qn at *
  repeat' ((fail_if_success with_reducible refine Stop.mk ?_);(conv=>whnf);with_reducible refine stop ?_)
  all_goals refine Stop.mk ?_
  refine loop_gh (gh_birthC 3 3 63 5 rfl rfl) ?_
  rintro _ _ ⟨rfl, rfl⟩
  refine loop_vars follows [(32, (.cons 0 [] (.cons 1 [] (.cons 2 [] (.cons 3 [1] .nil))))), (33, (.cons 0 [] (.cons 1 [] (.cons 2 [0] (.cons 3 [0, 1] .nil)))))] (α := Nat × Int × Ps × List MBlk × List Value × Gh × Option Addr × Nat × Ps) (fun x => [(6, .v (.int .i64 x.2.1)), (7, .v (.int .i64 x.1))])
    (fun x => [inO x.2.2.2.2.2.2.1 x.2.2.2.2.2.2.2.1 x.2.2.2.2.2.2.2.2, .cells 28 [.v (.int .i64 0), .v (.int .i64 0), .v (.int .i64 0), .v (.slice none 0 0)], inO none 0 ([], 0), .cells 28 [.v (.int .i64 a), .v (.int .i64 regs), .v (.int .i64 slots), .s 4], .row 63 5 x.1 x.2.2.2.2.1]) (fun x => x.2.2.2.2.2.1)
    (fun x => x.1 ≤ qn.1.toNat ∧ RIn x.2.2.2.2.2.1 x.2.2.2.2.2.2.1 x.2.2.2.2.2.2.2.1 x.2.2.1 x.2.2.2.2.2.2.2.2 ∧ isB x.2.2.1.1 ∧ x.2.2.2.1.length = x.1 ∧ kMBlk.Cs x.2.2.2.2.2.1 x.2.2.2.1 x.2.2.2.2.1 ∧ Run (sMBlkF regs slots qn.1) nxMB qn.1.toNat 0 qn.2 x.1 x.2.1 x.2.2.1 x.2.2.2.1 ∧ (x.2.2.1.2 = 0 → 0 ≤ x.2.1 ∧ x.2.1 ≤ 1048576))
    (fun x => qn.1.toNat - x.1) (0, 0, qn.2, [], [], _, B4, d4, r4)
    ⟨Nat.zero_le _, hR4, hbn, rfl, Kd.Cs.nil _ _, Run.start _ _ _, fun _ => ⟨Int.le_refl _, by dsimp only; decide⟩⟩ rfl rfl ?_ ?_
  ·
    refine ⟨?_⟩
    (conv => whnf)
    (repeat' (first | exact trivial | exact .inl rfl | exact .inr rfl | refine And.intro ?_ ?_))
  clear hR4 hbn
  rintro ⟨k, t, p1, os, vals, Gk, A1, c1, ri⟩ ⟨hk, hR, hpb, hol, hvals, hrun, ht⟩
  dsimp only at hk hR hpb hol hvals hrun ht ⊢
  have hw2 : IntKind.i64.wrap ((k : Int) + 1) = ((k + 1 : Nat) : Int) := by rw [i64_in (by omega) (by omega)]; simp
  have hexit : ∀ (hd : qn.1.toNat ≤ k ∨ p1.2 ≠ 0), sMBlks regs slots qn.1 qn.2 = (os, p1) := fun hd => hrun.done hd
  have he1 := hR.he
  repeat' ((fail_if_success with_reducible refine Stop.mk ?_);(conv=>whnf);with_reducible first|refine br_f ?_|refine br_d (fun h=>?_) fun h=>?_|refine br_e (fun h=>?_) fun h=>?_|refine br_n (fun h=>?_) fun h=>?_|refine drw (by kernel_rfl) ?_|refine stop ?_)
  all_goals refine Stop.mk ?_
  · have hp0 : p1.2 = 0 := by rw [← he1]; assumption
    have hkk0 : k < qn.1.toNat := by omega
    obtain ⟨ht1, ht2⟩ := ht hp0
    refine call_fn [] (rcode_fn t hR hpb ⟨ht1, ht2⟩) rfl trivial (by decide) ?_
    rintro sv H' G' ⟨v, hv1, ⟨B5, d5, r5, rfl, hR5, rfl, rfl⟩, hv2⟩ -
    refine ⟨Nat.le_of_ble_eq_true rfl, ?_⟩
    have hw3 : IntKind.i64.wrap (t + v) = t + v := i64_in (by omega) (by omega)
    have hblk : sMBlkF regs slots qn.1 t p1 = (⟨(sMCode regs slots (cntI t p1).1 (cntI t p1).2).1, (sTrm regs qn.1 (sMCode regs slots (cntI t p1).1 (cntI t p1).2).2).1⟩, (sTrm regs qn.1 (sMCode regs slots (cntI t p1).1 (cntI t p1).2).2).2) := rfl
    have hbu : isB (cntI t p1).2.1 := isB_sub hpb (cntC_suf _ _ _ _ _)
    generalize cntI t p1 = u at *
    repeat' ((fail_if_success with_reducible refine Stop.mk ?_);(conv=>whnf);with_reducible refine stop ?_)
    all_goals refine Stop.mk ?_
    rw [hw3]
    clear hR
    refine loop_opq fun K0 hK0 => ?_
    refine loop_gh (gh_birthC 5 0 128 7 rfl rfl) ?_
    rintro _ _ ⟨rfl, rfl⟩
    refine loop_vars follows [(32, (.cons 0 [] (.cons 1 [] (.cons 2 [] (.cons 3 [1] .nil))))), (33, (.cons 0 [] (.cons 1 [] (.cons 2 [0] (.cons 3 [0, 1] .nil)))))] (α := Nat × Int × Ps × List Mac × List Value × Option Addr × Nat × Ps) (fun x => [(10, .v (.int .i64 x.2.1)), (11, .v (.int .i64 x.1))])
      (fun x => [inO x.2.2.2.2.2.1 x.2.2.2.2.2.2.1 x.2.2.2.2.2.2.2, .cells 28 [.v (.int .i64 0), .v (.int .i64 0), .v (.int .i64 0), .v (.slice none 0 0)], inO none 0 ([], 0), .cells 28 [.v (.int .i64 a), .v (.int .i64 regs), .v (.int .i64 slots), .s 4], .row 63 5 k vals, .cells 63 [.s 6, .v (.int .i64 0), .v (.int .i64 0), .v (.int .i64 0), .v (.int .i64 0)], .row 128 7 x.1 x.2.2.2.2.1]) (fun x => G')
      (fun x => (u.2.2 = 0 → x.1 ≤ u.1.toNat) ∧ x.1 ≤ 2000000 ∧ RIn G' x.2.2.2.2.2.1 x.2.2.2.2.2.2.1 x.2.2.1 x.2.2.2.2.2.2.2 ∧ isB x.2.2.1.1 ∧ x.2.2.2.1.length = x.1 ∧ kMac.Cs G' x.2.2.2.1 x.2.2.2.2.1 ∧ Run (sMacR regs slots) nxR u.1.toNat 0 u.2 x.1 x.2.1 x.2.2.1 x.2.2.2.1 ∧ (u.2.2 ≠ 0 → x.2.2.1.2 ≠ 0) ∧ (0 ≤ x.2.1 ∧ x.2.1 ≤ x.1))
      (fun x => v.toNat - x.1) (0, 0, u.2, [], [], B5, d5, r5)
      ⟨fun _ => Nat.zero_le _, Nat.zero_le _, hR5, hbu, rfl, Kd.Cs.nil _ _, Run.start _ _ _, fun h9 => h9, ⟨Int.le_refl _, Int.le_refl _⟩⟩ rfl rfl ?_ ?_
    ·
      refine ⟨?_⟩
      (conv => whnf)
      (repeat' (first | exact trivial | exact .inl rfl | exact .inr rfl | refine And.intro ?_ ?_))
    clear hpb hR5 hbu
    rintro ⟨j, run, p2, cs, vals2, A2, c2, r2⟩ ⟨hj0, hjm, hR, hpb, hcl, hvals2, hrun2, hue, hrr2⟩
    dsimp only at hj0 hjm hR hpb hcl hvals2 hrun2 hue hrr2 ⊢
    have hw4 : IntKind.i64.wrap ((j : Int) + 1) = ((j + 1 : Nat) : Int) := by rw [i64_in (by omega) (by omega)]; simp
    have he2 := hR.he
    have hexit2 : ∀ (hd : v.toNat ≤ j ∨ p2.2 ≠ 0), sMCode regs slots u.1 u.2 = (cs, p2) := fun hd => hrun2.done (by
      rcases Decidable.em (u.2.2 = 0) with h9 | h9
      · rw [← (hv2 h9).1]; exact hd
      · exact .inr (hue h9))
    repeat' ((fail_if_success with_reducible refine Stop.mk ?_);(conv=>whnf);with_reducible first|refine br_f ?_|refine br_d (fun h=>?_) fun h=>?_|refine br_e (fun h=>?_) fun h=>?_|refine stop ?_)
    all_goals refine Stop.mk ?_
    · have hp20 : p2.2 = 0 := by rw [← he2]; assumption
      have hu0 : u.2.2 = 0 := Classical.byContradiction fun h9 => hue h9 hp20
      obtain ⟨hvu, htv⟩ := hv2 hu0
      have hjj : j < u.1.toNat := by omega
      have hok := sMac_ok64 (regs := regs) (slots := slots) hpb (by omega)
      have hnext := hrun2.next hjj hp20 (x := (sMac regs slots p2).1) (p' := if nxR run (sMac regs slots p2).1 > 64 then sFail 15 (sMac regs slots p2).2 else (sMac regs slots p2).2) rfl (nxR run (sMac regs slots p2).1) (fun _ => rfl)
      have hpb3 : isB (sMac regs slots p2).2.1 := isB_sub hpb (sMac_suf regs slots p2)
      have hw5 : IntKind.i64.wrap (run + 1) = run + 1 := i64_in (by omega) (by omega)
      refine call_fn [] (rmac_fn regs slots hR hpb (by omega) (by omega) (by omega)) rfl trivial (by decide) ?_
      rintro sv H' G' ⟨B6, d6, r6, rfl, hR6, rfl, rfl⟩ -
      refine ⟨Nat.le_of_ble_eq_true rfl, ?_⟩
      clear hR hpb hexit2 hexit hfn hblk hK0 hw3 hw2
      generalize sMac regs slots p2 = xp at *
      obtain ⟨x, p3⟩ := xp
      dsimp only at hok hnext hpb3 hR6
      repeat' ((fail_if_success with_reducible refine Stop.mk ?_);(conv=>whnf);with_reducible refine stop ?_)
      all_goals refine Stop.mk ?_
      refine ⟨by simp [Value.oneCell'], ⟨by show (j + 1) * 56 ≤ _; omega, ?_⟩⟩
      repeat' ((fail_if_success with_reducible refine Stop.mk ?_);(conv=>whnf);first|((with_reducible refine br_d (fun h=>?_) fun h=>?_) <;> try (exfalso; omega))|((with_reducible refine br_n (fun h=>?_) fun h=>?_) <;> try (exfalso; omega))|with_reducible refine stop ?_)
      all_goals refine Stop.mk ?_
      all_goals try rw [hw5] at h
      all_goals try
        refine call_fn [] (r18Fail_fn 15 hR6 (by decide)) rfl trivial (by decide) ?_
        rintro sv H' G' ⟨B7, d7, r7, rfl, hR7, rfl, rfl⟩ -
        refine ⟨Nat.le_of_ble_eq_true rfl, ?_⟩
        repeat' ((fail_if_success with_reducible refine Stop.mk ?_);(conv=>whnf);with_reducible refine stop ?_)
        all_goals refine Stop.mk ?_
      all_goals rw [hw4]
      all_goals try rw [hw5]
      all_goals
        refine tell_gc hE [0, 1, 2, 3, 4, 5, 6] rfl rfl ?_
        (conv => whnf)
        first
          | (have h18 : x.op = 18 := by assumption
             have hrn : run + 1 > 64 := by assumption
             rw [show nxR run x = run + 1 from if_pos h18, if_pos hrn] at hnext
             refine tell_here ⟨(j + 1, run + 1, sFail 15 p3, cs ++ [x], vals2 ++ i64s x.l, B7, d7, r7), ⟨fun _ => by show j + 1 ≤ _; omega, by show j + 1 ≤ _; omega, hR7, by show isB (sFail 15 p3).1; exact hpb3, by simp [hcl], hvals2.snoc ⟨rfl, hok⟩, hnext, fun h9 => absurd hu0 h9, by dsimp only; omega⟩, by show v.toNat - (j + 1) < v.toNat - j; omega, rfl, rfl, ?_⟩)
          | (have h18 : x.op = 18 := by assumption
             have hrn : ¬ run + 1 > 64 := by assumption
             rw [show nxR run x = run + 1 from if_pos h18, if_neg hrn] at hnext
             refine tell_here ⟨(j + 1, run + 1, p3, cs ++ [x], vals2 ++ i64s x.l, B6, d6, r6), ⟨fun _ => by show j + 1 ≤ _; omega, by show j + 1 ≤ _; omega, hR6, hpb3, by simp [hcl], hvals2.snoc ⟨rfl, hok⟩, hnext, fun h9 => absurd hu0 h9, by dsimp only; omega⟩, by show v.toNat - (j + 1) < v.toNat - j; omega, rfl, rfl, ?_⟩)
          | (have h18 : x.op ≠ 18 := by assumption
             rw [show nxR run x = 0 from if_neg h18, if_neg (by decide)] at hnext
             refine tell_here ⟨(j + 1, 0, p3, cs ++ [x], vals2 ++ i64s x.l, B6, d6, r6), ⟨fun _ => by show j + 1 ≤ _; omega, by show j + 1 ≤ _; omega, hR6, hpb3, by simp [hcl], hvals2.snoc ⟨rfl, hok⟩, hnext, fun h9 => absurd hu0 h9, by dsimp only; omega⟩, by show v.toNat - (j + 1) < v.toNat - j; omega, rfl, rfl, ?_⟩)
        refine ⟨?_⟩
        (conv => whnf)
        (repeat' (first | exact trivial | exact .inl rfl | exact .inr rfl | refine And.intro ?_ ?_))
    all_goals
      have hsc := hexit2 (by first | exact .inl (by omega) | exact .inr (by rw [← he2]; assumption))
      refine Stop.mk (hK0 _ _ ?_)
      clear hK0
      repeat' ((fail_if_success with_reducible refine Stop.mk ?_);(conv=>whnf);with_reducible refine stop ?_)
      all_goals refine Stop.mk ?_
      have hst : (sTrm regs qn.1 p2).2.2 = 0 → p2.2 = 0 := fun h0 => Classical.byContradiction fun h9 => h9 (by rw [sTrm_st h9 (by omega) (by omega)] at h0; exact h0)
      have hful : p2.2 = 0 → cs.length = u.1.toNat ∧ u.2.2 = 0 := by
        intro h0
        have h8 := rep_full (f := sMacR regs slots) (nx := nxR) u.1.toNat 0 u.2
        rw [show rep (sMacR regs slots) nxR u.1.toNat 0 u.2 = (cs, p2) from hsc] at h8
        refine ⟨h8 h0, Classical.byContradiction fun h9 => h9 ?_⟩
        have h7 := sMCode_st (regs := regs) (slots := slots) (k := u.1) h9
        rw [hsc] at h7
        rw [← h7]; exact h0
      have htok := sTrm_ok64 (regs := regs) (blocks := qn.1) hpb (by omega) (by omega)
      have hpb3 := isB_sub hpb (sTrm_suf regs qn.1 p2)
      rw [hsc] at hblk
      dsimp only at hblk
      refine call_fn [] (rtrm_fn regs qn.1 hR (by omega) (by omega) (by omega) (by omega)) rfl trivial (by decide) ?_
      rintro sv H' G' ⟨B6, d6, r6, rfl, hR6, rfl, rfl⟩ -
      refine ⟨Nat.le_of_ble_eq_true rfl, ?_⟩
      clear hR hpb
      generalize sTrm regs qn.1 p2 = xp at *
      obtain ⟨tm, p3⟩ := xp
      dsimp only at hst htok hpb3 hR6 hblk
      repeat' ((fail_if_success with_reducible refine Stop.mk ?_);(conv=>whnf);with_reducible refine stop ?_)
      all_goals refine Stop.mk ?_
      refine And.intro hvals2.ones ?_
      intro Ax cx Gx hgx hsx _
      (conv => whnf)
      refine And.intro (by show (k + 1) * 56 ≤ _; omega) ?_
      replace hR6 := hR6.to hgx
      replace hvals := hvals.to hgx
      replace hvals2 := hvals2.to hgx
      have hSx : kMac.S Gx Ax cx cs := Kd.S.of hsx hcl.symm rfl hvals2
      clear hgx hsx
      repeat' ((fail_if_success with_reducible refine Stop.mk ?_);(conv=>whnf);with_reducible refine stop ?_)
      all_goals refine Stop.mk ?_
      rw [hw2]
      have hnx : p3.2 = 0 → t + v = nxMB t ⟨cs, tm⟩ ∧ (0 ≤ t + v ∧ t + v ≤ 1048576) := by
        intro h0
        obtain ⟨h1, h2⟩ := hful (hst h0)
        have h3 := hv2 h2
        unfold nxMB
        dsimp only
        omega
      refine tell_gc hE [0, 1, 2, 3, 4] rfl rfl ?_
      (conv => whnf)
      refine tell_here ⟨(k + 1, t + v, p3, os ++ [⟨cs, tm⟩], vals ++ (.slice Ax j cx :: i64s tm.l), _, B6, d6, r6), ⟨by show k + 1 ≤ _; omega, hR6, hpb3, by simp [hol], hvals.snoc ⟨Ax, cx, by rw [hcl], hSx, htok⟩, hrun.next hkk0 hp0 hblk _ (fun h0 => (hnx h0).1), fun h0 => (hnx h0).2⟩, by show qn.1.toNat - (k + 1) < qn.1.toNat - k; omega, rfl, rfl, ?_⟩
      refine ⟨?_⟩
      (conv => whnf)
      (repeat' (first | exact trivial | exact .inl rfl | exact .inr rfl | refine And.intro ?_ ?_))
  all_goals
    have he := hexit (by first | exact .inr (by rw [← he1]; assumption) | exact .inl (by omega))
    rw [he] at hfn
    dsimp only at hfn
    repeat' ((fail_if_success with_reducible refine Stop.mk ?_);(conv=>whnf);with_reducible refine stop ?_)
    all_goals refine Stop.mk ?_
  all_goals
    first
      | (have h0 : p1.2 ≠ 0 := by rw [← he1]; assumption
         refine fin_id hE 0 rfl rfl rfl rfl ?_
         rw [hfn, if_neg h0]
         exact ⟨none, 0, A1, c1, ri, rfl, Kd.S.none_ _ _, hR, rfl⟩)
      | (have h0 : p1.2 = 0 := by rw [← he1]; assumption
         refine fin_done 4 rfl hvals.ones fun A2 c2 G2 hg hs => fin_id hE 0 rfl rfl rfl rfl ?_
         rw [hfn, if_pos h0]
         exact ⟨A2, c2, A1, c1, ri, by rw [← hol]; rfl, Kd.S.of hs hol.symm rfl (hvals.to hg), hR.to hg, rfl⟩)
end Go.Proofs.YtchebkpcgglllaaGreat.Cu
