/- Ccz: CcF, CcG, CcH in one text. -/
import Derived.Test.YtchebkpcgglllaaGreatCcy
import Derived.Test.YtchebkpcgglllaaGreatSex
import Derived.Test.YtchebkpcgglllaaGreatFuLx
import Derived.Test.YtchebkpcgglllaaGreatWiBx
import Derived.Test.YtchebkpcgglllaaGreatSXc
import Derived.Test.YtchebkpcgglllaaGreatSoy
import Derived.Test.YtchebkpcgglllaaGreatMa4
import Derived.Test.YtchebkpcgglllaaGreatEdx
import Derived.Test.YtchebkpcgglllaaGreatCc9
namespace Go.Proofs.YtchebkpcgglllaaGreat.Cu
open Go Go.SX Go.Proofs.YtchebkpcgglllaaGreat.VT
set_option maxRecDepth 100000
set_option linter.unusedVariables false
set_option linter.unusedSimpArgs false
set_option maxHeartbeats 8000000 in
theorem rend_fn {G : Gh} {A : Option Addr} {c : Nat} {p r : Ps} (hR : RIn G A c p r) :
    Ct Tryz.prog 36 [inS A c r] [] G fun sv H' G' => sv = .v (.int .i64 (sEnd p).2) ∧ H' = [] ∧ G' = G := by
  have he := hR.he
  have hl : p.2 = 0 → r.1.length = p.1.length := fun h => by rw [hR.hr h]
  refine fn_of follows [] Tryz.func36 rfl rfl fun E hE => ?_
  unfold inS
  repeat' ((fail_if_success with_reducible refine Stop.mk ?_);(conv=>whnf);first|with_reducible refine br_f ?_|((with_reducible refine br_d (fun h=>?_) fun h=>?_) <;> try (exfalso; omega))|((with_reducible refine br_e (fun h=>?_) fun h=>?_) <;> try (exfalso; omega))|with_reducible refine stop ?_)
  all_goals refine Stop.mk ?_
  all_goals
    refine fin_id hE 0 rfl rfl rfl rfl ⟨congrArg (fun e => SV.v (.int .i64 e)) ?_, rfl, rfl⟩
    unfold sEnd sLeft
    by_cases h0 : p.2 = 0
    · have := hl h0
      rw [if_pos h0]
      dsimp only
      split <;> omega
    · rw [if_neg h0]
      dsimp only
      rw [if_neg (by omega)]
      omega
set_option maxHeartbeats 16000000 in
theorem rdecode_fn (G : Gh) (A : Option Addr) (c : Nat) (b : List Int) (hbb : isB b) (hb : SlB G A c b) (hlen : b.length ≤ 1000000) (hP : PartOK b) :
    Ct Tryz.prog 11 [.v (.slice A b.length c)] [] G (DecPost b) := by
  have herr : cErr b = if eStart b ≠ 0 then eStart b else
    if (splitR [1, 2, 3] (b.drop 3)).2 ≠ 0 then (splitR [1, 2, 3] (b.drop 3)).2 else
    if (secS (cPart b 0)).2 ≠ 0 then (secS (cPart b 0)).2 else
    if (secT (cPart b 1)).2 ≠ 0 then (secT (cPart b 1)).2 else
    if (cS b).blocks.length ≠ (cT b).blocks.length ∨ (cS b).args ≠ (cT b).args then 14 else (secW (cS b) (cT b) (cPart b 2)).2 := rfl
  have hst : eStart b = if b.length < 2 then 1 else if b.getD 0 0 ≠ 82 ∨ b.getD 1 0 ≠ 67 then 4 else if b.length < 3 then 1 else if b.getD 2 0 ≠ 1 then 5 else 0 := rfl
  have hcap := hb.cap
  have hs0 := hb
  unfold SlB at hs0
  refine fn_of follows [(15, (.cons 0 [] (.cons 1 [] (.cons 2 [1] (.cons 3 [0, 1] (.cons 4 [] .nil)))))), (18, (.cons 0 [] (.cons 1 [] (.cons 2 [1] (.cons 3 [0, 1] (.cons 4 [] .nil)))))), (21, (.cons 1 [] (.cons 2 [] (.cons 3 [] (.cons 6 [] (.cons 7 [] (.cons 8 [] (.cons 9 [] (.cons 10 [] (.cons 11 [] (.cons 12 [] (.cons 13 [] (.cons 14 [] (.alt (.cons 0 [] (.alt (.cons 4 [] (.cons 5 [] (.alt (.cons 15 [] (.cons 16 [] (.cons 17 [] (.cons 18 [] (.cons 19 [] (.cons 20 [] (.cons 21 [] .nil))))))) (.cons 19 [] (.cons 15 [] (.cons 16 [] (.cons 17 [] (.cons 18 [] (.cons 20 [] (.cons 21 [] .nil)))))))))) (.cons 19 [] (.cons 4 [] (.cons 5 [] (.cons 15 [] (.cons 16 [] (.cons 17 [] (.cons 18 [] (.cons 20 [] (.cons 21 [] .nil))))))))))) (.cons 19 [] (.cons 0 [] (.cons 4 [] (.cons 5 [] (.cons 15 [] (.cons 16 [] (.cons 17 [] (.cons 18 [] (.cons 20 [] (.cons 21 [] .nil)))))))))))))))))))))))), (23, (.cons 0 [] (.cons 1 [] (.cons 2 [1] (.cons 3 [0, 1] (.cons 4 [] .nil))))))] Tryz.func11 rfl rfl fun E hE => ?_
  repeat' ((fail_if_success with_reducible refine Stop.mk ?_);(conv=>whnf);first|((with_reducible refine br_d (fun h=>?_) fun h=>?_) <;> try (exfalso; omega))|with_reducible refine stop ?_)
  all_goals refine Stop.mk ?_
  · rw [if_pos (by omega)] at hst
    rw [hst, if_pos (by decide)] at herr
    exact fin_id hE 0 rfl rfl rfl rfl ⟨rfl, .inr ⟨by rw [herr]; decide, by rw [herr]; rfl⟩⟩
  rw [if_neg (by omega)] at hst
  refine ⟨⟨by omega, by omega⟩, _, hs0, fun ad had hadr => ?_⟩
  repeat' ((fail_if_success with_reducible refine Stop.mk ?_);(conv=>whnf);with_reducible refine stop ?_)
  all_goals refine Stop.mk ?_
  refine ⟨_, el1 had (by show 0 < b.length; omega), ?_⟩
  rw [show b.getD (Int.toNat 0) 0 = b.getD 0 0 from rfl]
  repeat' ((fail_if_success with_reducible refine Stop.mk ?_);(conv=>whnf);first|with_reducible refine br_t ?_|((with_reducible refine br_n (fun h=>?_) fun h=>?_) <;> try (exfalso; omega))|with_reducible refine stop ?_)
  all_goals refine Stop.mk ?_
  all_goals try
    rw [if_pos (.inl (by omega))] at hst
    rw [hst, if_pos (by decide)] at herr
    exact fin_id hE 0 rfl rfl rfl rfl ⟨rfl, .inr ⟨by rw [herr]; decide, by rw [herr]; rfl⟩⟩
  clear had hadr
  refine ⟨⟨by omega, by omega⟩, _, hs0, fun ad had hadr => ?_⟩
  repeat' ((fail_if_success with_reducible refine Stop.mk ?_);(conv=>whnf);with_reducible refine stop ?_)
  all_goals refine Stop.mk ?_
  refine ⟨_, el1 had (by show 1 < b.length; omega), ?_⟩
  rw [show b.getD (Int.toNat 1) 0 = b.getD 1 0 from rfl]
  repeat' ((fail_if_success with_reducible refine Stop.mk ?_);(conv=>whnf);first|((with_reducible refine br_d (fun h=>?_) fun h=>?_) <;> try (exfalso; omega))|((with_reducible refine br_n (fun h=>?_) fun h=>?_) <;> try (exfalso; omega))|with_reducible refine stop ?_)
  all_goals refine Stop.mk ?_
  all_goals try
    rw [if_pos (.inr (by omega))] at hst
    rw [hst, if_pos (by decide)] at herr
    exact fin_id hE 0 rfl rfl rfl rfl ⟨rfl, .inr ⟨by rw [herr]; decide, by rw [herr]; rfl⟩⟩
  all_goals try
    rw [if_neg (by omega), if_pos (by omega)] at hst
    rw [hst, if_pos (by decide)] at herr
    exact fin_id hE 0 rfl rfl rfl rfl ⟨rfl, .inr ⟨by rw [herr]; decide, by rw [herr]; rfl⟩⟩
  rw [if_neg (by omega), if_neg (by omega)] at hst
  clear had hadr
  refine ⟨⟨by omega, by omega⟩, _, hs0, fun ad had hadr => ?_⟩
  repeat' ((fail_if_success with_reducible refine Stop.mk ?_);(conv=>whnf);with_reducible refine stop ?_)
  all_goals refine Stop.mk ?_
  refine ⟨_, el1 had (by show 2 < b.length; omega), ?_⟩
  rw [show b.getD (Int.toNat 2) 0 = b.getD 2 0 from rfl]
  repeat' ((fail_if_success with_reducible refine Stop.mk ?_);(conv=>whnf);first|((with_reducible refine br_n (fun h=>?_) fun h=>?_) <;> try (exfalso; omega))|with_reducible refine stop ?_)
  all_goals refine Stop.mk ?_
  all_goals try
    rw [if_pos (by omega)] at hst
    rw [hst, if_pos (by decide)] at herr
    exact fin_id hE 0 rfl rfl rfl rfl ⟨rfl, .inr ⟨by rw [herr]; decide, by rw [herr]; rfl⟩⟩
  rw [if_neg (by omega)] at hst
  rw [if_neg (not_not_intro hst)] at herr
  clear had hadr
  refine ⟨⟨by omega, by omega⟩, fun A2 hA2 => ?_⟩
  have hs2 := slB_drop hb 3 (by omega) hA2
  have hbd : isB (b.drop 3) := isB_drop hbb 3
  have hdl : b.length - Int.toNat 3 = (b.drop 3).length := by rw [List.length_drop]; rfl
  have hcl : c - Int.toNat 3 = c - 3 := rfl
  rw [hdl, hcl]
  clear hA2
  repeat' ((fail_if_success with_reducible refine Stop.mk ?_);(conv=>whnf);with_reducible refine stop ?_)
  all_goals refine Stop.mk ?_
  refine call_fz 2 rfl (by simp [Value.oneCell']) (enters_of Tryz.func34 rfl rfl) fun Az cz Gz hgz hsz => ?_
  (conv => whnf)
  refine call_fn [] (rsplit_fn _ A2 Az (c - 3) cz (b.drop 3) [1, 2, 3] hbd (Sl.to hgz hs2) (kB_of [1, 2, 3] hsz rfl rfl rfl (by decide)) (by decide) (by rw [List.length_drop]; omega)) rfl trivial (by decide) ?_
  intro sv H' G3 hp hg3
  unfold SplitPost at hp
  by_cases h2 : (splitR [1, 2, 3] (b.drop 3)).2 = 0
  case neg =>
    rw [if_neg h2] at hp
    rw [if_pos h2] at herr
    obtain ⟨rfl, rfl⟩ := hp
    refine ⟨Nat.le_of_ble_eq_true rfl, ?_⟩
    repeat' ((fail_if_success with_reducible refine Stop.mk ?_);(conv=>whnf);with_reducible first|refine br_n (fun h=>?_) fun h=>?_|refine stop ?_)
    all_goals refine Stop.mk ?_
    all_goals try exact absurd (by assumption) h2
    exact fin_id hE 0 rfl rfl rfl rfl ⟨rfl, .inr ⟨by rw [herr]; exact h2, by rw [herr]; rfl⟩⟩
  rw [if_pos h2] at hp
  rw [if_neg (not_not_intro h2)] at herr
  obtain ⟨x, y, z, hxyz⟩ := splitR3 (b.drop 3)
  have e0 : cPart b 0 = x := by unfold cPart; rw [hxyz]; rfl
  have e1 : cPart b 1 = y := by unfold cPart; rw [hxyz]; rfl
  have e2 : cPart b 2 = z := by unfold cPart; rw [hxyz]; rfl
  rw [hxyz] at hp
  obtain ⟨vals, rfl, rfl, hv⟩ := hp
  obtain ⟨B1, d1, B2, d2, B3, d3, rfl, ⟨s1, b1⟩, ⟨s2, b2⟩, s3, b3⟩ := kBs3 hv
  have hl0 := hP.l0 h2
  have hl1 := hP.l1 h2
  have hl2 := hP.l2 h2
  have hvr := hP.vr h2
  rw [e0] at hl0 herr hvr
  rw [e1] at hl1 herr hvr
  rw [e2] at hl2 herr
  have hS : cS b = (sFnR (x, 0)).1 := by unfold cS secS; rw [e0]
  have hT : cT b = (sMFnR (y, 0)).1 := by unfold cT secT; rw [e1]
  have hW : cW b = sInvL (cS b) (cT b) (z, 0) := by unfold cW; rw [e2]
  have c1 := s1.cap
  have c2 := s2.cap
  have c3 := s3.cap
  refine ⟨Nat.le_of_ble_eq_true rfl, ?_⟩
  repeat' ((fail_if_success with_reducible refine Stop.mk ?_);(conv=>whnf);with_reducible first|refine br_n (fun h=>?_) fun h=>?_|refine stop ?_)
  all_goals refine Stop.mk ?_
  all_goals try exact absurd rfl (by assumption)
  refine ⟨⟨by decide, by simp⟩, ?_⟩
  repeat' ((fail_if_success with_reducible refine Stop.mk ?_);(conv=>whnf);with_reducible refine stop ?_)
  all_goals refine Stop.mk ?_
  refine ldrow1 ?_
  repeat' ((fail_if_success with_reducible refine Stop.mk ?_);(conv=>whnf);with_reducible refine stop ?_)
  all_goals refine Stop.mk ?_
  refine ⟨_, s1, ⟨by show (0 + x.length) * 1 ≤ _; omega, ?_⟩⟩
  simp only [Nat.zero_add, List.nil_append]
  repeat' ((fail_if_success with_reducible refine Stop.mk ?_);(conv=>whnf);with_reducible refine stop ?_)
  all_goals refine Stop.mk ?_
  refine call_fz 4 rfl (byts_one _) (enters_of Tryz.func35 rfl rfl) fun Ax cx Gx hgx hsx => ?_
  (conv => whnf)
  have hI : RIn Gx Ax cx (x, 0) (x, 0) := ⟨SlB.of x hsx rfl rfl rfl, b1, by dsimp only; omega, rfl, fun _ => rfl⟩
  replace s2 := Sl.to hgx s2
  replace s3 := Sl.to hgx s3
  refine call_fn [] (rfunc_fn hI b1) rfl trivial (by decide) ?_
  rintro sv H' G5 ⟨B4, d4, A4, c4, i4, rfl, hsS, hR4, rfl⟩ hg5
  replace s2 := Sl.to hg5 s2
  replace s3 := Sl.to hg5 s3
  clear hI hgx hsx
  refine ⟨Nat.le_of_ble_eq_true rfl, ?_⟩
  have hse : (sEnd (sFnR (x, 0)).2).2 = (secS x).2 := rfl
  rw [← hS] at hsS ⊢
  unfold fnS inS
  repeat' ((fail_if_success with_reducible refine Stop.mk ?_);(conv=>whnf);with_reducible refine stop ?_)
  all_goals refine Stop.mk ?_
  refine call_fn [] (rend_fn hR4) rfl trivial (by decide) ?_
  rintro sv H' G6 ⟨rfl, rfl, rfl⟩ -
  rw [hse]
  refine ⟨Nat.le_of_ble_eq_true rfl, ?_⟩
  by_cases h3 : (secS x).2 = 0
  case neg =>
    rw [if_pos h3] at herr
    generalize (secS x).2 = e at *
    repeat' ((fail_if_success with_reducible refine Stop.mk ?_);(conv=>whnf);with_reducible first|refine br_n (fun h=>?_) fun h=>?_|refine drw_fast (by kernel_rfl) ?_|refine stop ?_)
    all_goals refine Stop.mk ?_
    all_goals try exact absurd (by assumption) h3
    refine call_fn [] (rend_fn hR4) rfl trivial (by decide) ?_
    rintro sv H' G6 ⟨rfl, rfl, rfl⟩ -
    rw [hse]
    refine ⟨Nat.le_of_ble_eq_true rfl, ?_⟩
    repeat' ((fail_if_success with_reducible refine Stop.mk ?_);(conv=>whnf);with_reducible refine stop ?_)
    all_goals refine Stop.mk ?_
    exact fin_id hE 0 rfl rfl rfl rfl ⟨rfl, .inr ⟨by rw [herr]; exact h3, by rw [herr]; rfl⟩⟩
  rw [if_neg (not_not_intro h3)] at herr
  rw [h3]
  repeat' ((fail_if_success with_reducible refine Stop.mk ?_);(conv=>whnf);with_reducible first|refine br_n (fun h=>?_) fun h=>?_|refine drw_fast (by kernel_rfl) ?_|refine stop ?_)
  all_goals refine Stop.mk ?_
  all_goals try exact absurd rfl (by assumption)
  clear hR4 hse
  refine ⟨⟨by decide, by simp⟩, ?_⟩
  repeat' ((fail_if_success with_reducible refine Stop.mk ?_);(conv=>whnf);with_reducible refine stop ?_)
  all_goals refine Stop.mk ?_
  refine ldrow1 ?_
  repeat' ((fail_if_success with_reducible refine Stop.mk ?_);(conv=>whnf);with_reducible refine stop ?_)
  all_goals refine Stop.mk ?_
  refine ⟨_, s2, ⟨by show (0 + y.length) * 1 ≤ _; omega, ?_⟩⟩
  simp only [Nat.zero_add, List.nil_append]
  repeat' ((fail_if_success with_reducible refine Stop.mk ?_);(conv=>whnf);with_reducible refine stop ?_)
  all_goals refine Stop.mk ?_
  refine call_fz 7 rfl (byts_one _) (enters_of Tryz.func37 rfl rfl) fun Ax cx Gx hgx hsx => ?_
  (conv => whnf)
  have hI : RIn Gx Ax cx (y, 0) (y, 0) := ⟨SlB.of y hsx rfl rfl rfl, b2, by dsimp only; omega, rfl, fun _ => rfl⟩
  replace hsS := hsS.to hgx
  replace s3 := Sl.to hgx s3
  refine call_fn [] (rmfunc_fn hI b2) rfl trivial (by decide) ?_
  rintro sv H' G6 ⟨B5, d5, A5, c5, i5, rfl, hsT, hR5, rfl⟩ hg6
  replace hsS := hsS.to hg6
  replace s3 := Sl.to hg6 s3
  clear hI hgx hsx
  refine ⟨Nat.le_of_ble_eq_true rfl, ?_⟩
  have hse : (sEnd (sMFnR (y, 0)).2).2 = (secT y).2 := rfl
  rw [← hT] at hsT ⊢
  unfold mfnS inS
  repeat' ((fail_if_success with_reducible refine Stop.mk ?_);(conv=>whnf);with_reducible refine stop ?_)
  all_goals refine Stop.mk ?_
  refine call_fn [] (rend_fn hR5) rfl trivial (by decide) ?_
  rintro sv H' G7 ⟨rfl, rfl, rfl⟩ -
  rw [hse]
  refine ⟨Nat.le_of_ble_eq_true rfl, ?_⟩
  by_cases h4 : (secT y).2 = 0
  case neg =>
    rw [if_pos h4] at herr
    generalize (secT y).2 = e at *
    repeat' ((fail_if_success with_reducible refine Stop.mk ?_);(conv=>whnf);with_reducible first|refine br_t ?_|refine br_n (fun h=>?_) fun h=>?_|refine drw_fast (by kernel_rfl) ?_|refine stop ?_)
    all_goals refine Stop.mk ?_
    all_goals try exact absurd (by assumption) h4
    refine call_fn [] (rend_fn hR5) rfl trivial (by decide) ?_
    rintro sv H' G7 ⟨rfl, rfl, rfl⟩ -
    rw [hse]
    refine ⟨Nat.le_of_ble_eq_true rfl, ?_⟩
    repeat' ((fail_if_success with_reducible refine Stop.mk ?_);(conv=>whnf);with_reducible refine stop ?_)
    all_goals refine Stop.mk ?_
    exact fin_id hE 0 rfl rfl rfl rfl ⟨rfl, .inr ⟨by rw [herr]; exact h4, by rw [herr]; rfl⟩⟩
  rw [if_neg (not_not_intro h4)] at herr
  rw [h4]
  replace hvr := hvr h3 h4
  clear hR5 hse
  by_cases h5 : (cS b).blocks.length ≠ (cT b).blocks.length ∨ (cS b).args ≠ (cT b).args
  case pos =>
    rw [if_pos h5] at herr
    repeat' ((fail_if_success with_reducible refine Stop.mk ?_);(conv=>whnf);first|with_reducible refine br_t ?_|((with_reducible refine br_n (fun h=>?_) fun h=>?_) <;> try (exfalso; omega))|with_reducible refine stop ?_)
    all_goals refine Stop.mk ?_
    all_goals try exact absurd rfl (by assumption)
    all_goals exact fin_id hE 0 rfl rfl rfl rfl ⟨rfl, .inr ⟨by rw [herr]; decide, by rw [herr]; rfl⟩⟩
  rw [if_neg h5] at herr
  repeat' ((fail_if_success with_reducible refine Stop.mk ?_);(conv=>whnf);first|((with_reducible refine br_n (fun h=>?_) fun h=>?_) <;> try (exfalso; omega))|with_reducible refine drw_fast (by kernel_rfl) ?_|with_reducible refine stop ?_)
  all_goals refine Stop.mk ?_
  all_goals try exact absurd rfl (by assumption)
  refine ⟨⟨by decide, by simp⟩, ?_⟩
  repeat' ((fail_if_success with_reducible refine Stop.mk ?_);(conv=>whnf);with_reducible refine stop ?_)
  all_goals refine Stop.mk ?_
  refine ldrow1 ?_
  repeat' ((fail_if_success with_reducible refine Stop.mk ?_);(conv=>whnf);with_reducible refine stop ?_)
  all_goals refine Stop.mk ?_
  refine And.intro ?_ ?_
  all_goals
    repeat' ((fail_if_success with_reducible refine Stop.mk ?_);(conv=>whnf);with_reducible refine stop ?_)
    all_goals refine Stop.mk ?_
    first
      | refine And.intro ?_ ?_
      | (refine ⟨_, s3, ⟨by show (0 + z.length) * 1 ≤ _; omega, ?_⟩⟩; simp only [Nat.zero_add, List.nil_append])
  all_goals
    repeat' ((fail_if_success with_reducible refine Stop.mk ?_);(conv=>whnf);with_reducible refine stop ?_)
    all_goals refine Stop.mk ?_
    try (refine ⟨_, s3, ⟨by show (0 + z.length) * 1 ≤ _; omega, ?_⟩⟩; simp only [Nat.zero_add, List.nil_append])
  focus
    refine And.intro ?_ ?_
    all_goals
      repeat' ((fail_if_success with_reducible refine Stop.mk ?_);(conv=>whnf);with_reducible refine stop ?_)
      all_goals refine Stop.mk ?_
  all_goals
    first
      | refine call_fz 10 rfl (byts_one _) (enters_of Tryz.func38 rfl rfl) fun Ax cx Gx hgx hsx => ?_
      | refine call_fz 11 rfl (byts_one _) (enters_of Tryz.func38 rfl rfl) fun Ax cx Gx hgx hsx => ?_
    (conv => whnf)
    have hI : RIn Gx Ax cx (z, 0) (z, 0) := ⟨SlB.of z hsx rfl rfl rfl, b3, by dsimp only; omega, rfl, fun _ => rfl⟩
    replace hsS := hsS.to hgx
    replace hsT := hsT.to hgx
    refine call_fn [] (rget_inv_fn ((cS b).blocks.length : Nat) (cS b).regs (cT b).regs (cT b).slots hI b3 hvr.1 hvr.2.1 hvr.2.2.1 hvr.2.2.2) rfl trivial (by decide) ?_
    rintro sv H' G8 ⟨v, A6, c6, i6, rfl, hV, hR6, rfl⟩ hg8
    replace hsS := hsS.to hg8
    replace hsT := hsT.to hg8
    obtain ⟨B6, d6, rfl, hsW⟩ : InvPost (cW b) v G8 := by rw [hW]; exact hV
    clear hV hI hgx hsx
    refine ⟨Nat.le_of_ble_eq_true rfl, ?_⟩
    have hse : (sEnd (sInv (cS b).regs (cT b).regs (cT b).slots ((cS b).blocks.length : Nat) (z, 0)).2).2 = (secW (cS b) (cT b) z).2 := rfl
    unfold inS
    repeat' ((fail_if_success with_reducible refine Stop.mk ?_);(conv=>whnf);with_reducible refine stop ?_)
    all_goals refine Stop.mk ?_
    refine call_fn [] (rend_fn hR6) rfl trivial (by decide) ?_
    rintro sv H' G9 ⟨rfl, rfl, rfl⟩ -
    rw [hse]
    refine ⟨Nat.le_of_ble_eq_true rfl, ?_⟩
    by_cases h6 : (secW (cS b) (cT b) z).2 = 0
    case neg =>
      generalize (secW (cS b) (cT b) z).2 = e at *
      repeat' ((fail_if_success with_reducible refine Stop.mk ?_);(conv=>whnf);with_reducible first|refine br_n (fun h=>?_) fun h=>?_|refine drw_fast (by kernel_rfl) ?_|refine stop ?_)
      all_goals refine Stop.mk ?_
      all_goals try exact absurd (by assumption) h6
      refine call_fn [] (rend_fn hR6) rfl trivial (by decide) ?_
      rintro sv H' G9 ⟨rfl, rfl, rfl⟩ -
      rw [hse]
      refine ⟨Nat.le_of_ble_eq_true rfl, ?_⟩
      repeat' ((fail_if_success with_reducible refine Stop.mk ?_);(conv=>whnf);with_reducible refine stop ?_)
      all_goals refine Stop.mk ?_
      exact fin_id hE 0 rfl rfl rfl rfl ⟨rfl, .inr ⟨by rw [herr]; exact h6, by rw [herr]; rfl⟩⟩
    rw [h6]
    repeat' ((fail_if_success with_reducible refine Stop.mk ?_);(conv=>whnf);with_reducible first|refine br_n (fun h=>?_) fun h=>?_|refine drw_fast (by kernel_rfl) ?_|refine stop ?_)
    all_goals refine Stop.mk ?_
    all_goals try exact absurd rfl (by assumption)
    exact fin_id hE 0 rfl rfl rfl rfl ⟨rfl, .inl ⟨by rw [herr]; exact h6, B4, B5, B6, d4, d5, d6, rfl, hsS, hsT, hsW⟩⟩
end Go.Proofs.YtchebkpcgglllaaGreat.Cu

namespace Go.Proofs.YtchebkpcgglllaaGreat.Cu
open Go Go.SX Go.Proofs.YtchebkpcgglllaaGreat.VT
set_option maxRecDepth 100000
set_option linter.unusedVariables false
set_option linter.unusedSimpArgs false
set_option maxHeartbeats 8000000 in
theorem valid16E_fn {G : Gh} {A B C : Option Addr} {a b c : Nat} {x : Crt} (h : CrtG G A B C a b c x) (hS : Sml x) :
    Ct Tryz.prog 16 [crtS A B C a b c x] [] G fun sv H' G' => sv = .v (.int .i64 (eCrt x)) ∧ H' = [] ∧ G' = G := by
  have hec : eCrt x = if eFn x.s ≠ 0 then eFn x.s else if eMFn x.t ≠ 0 then eMFn x.t else if x.s.blocks.length ≠ x.t.blocks.length ∨ x.s.args ≠ x.t.args then 14 else eInv x.s.blocks.length x.s.regs x.t.regs x.t.slots x.w := rfl
  obtain ⟨⟨fa, fr, fb⟩, ⟨ga, gr, gs, gb⟩, w⟩ := x
  obtain ⟨hs, ht, hw⟩ := h
  obtain ⟨k1, k2, k3, m1, m2, m3, m4, n1, n2⟩ := hS
  dsimp only at hs ht hw k1 k2 k3 m1 m2 m3 m4 n1 n2 hec
  have htot := tot_mul 400 w n2
  refine fn_of follows [] Tryz.func16 rfl rfl fun E hE => ?_
  unfold crtS
  dsimp only
  repeat' ((fail_if_success with_reducible refine Stop.mk ?_);(conv=>whnf);with_reducible refine stop ?_)
  all_goals refine Stop.mk ?_
  refine call_fn [] (check7E_fn _ A a ⟨fa, fr, fb⟩ hs (by dsimp only; omega) (by dsimp only; omega)) rfl trivial (by decide) ?_
  rintro sv H' G' ⟨rfl, rfl, rfl⟩ -
  refine ⟨Nat.le_of_ble_eq_true rfl, ?_⟩
  repeat' ((fail_if_success with_reducible refine Stop.mk ?_);(conv=>whnf);with_reducible first|refine br_n (fun h=>?_) fun h=>?_|refine stop ?_)
  all_goals refine Stop.mk ?_
  rotate_left
  · refine fin_id hE 0 rfl rfl rfl rfl ⟨congrArg (fun e => SV.v (.int .i64 e)) ?_, rfl, rfl⟩
    rw [hec, if_pos (by assumption)]
  rw [if_neg (not_not_intro (by assumption))] at hec
  refine call_fn [] (check8E_fn _ B b ⟨ga, gr, gs, gb⟩ ht (by dsimp only; omega) (by dsimp only; omega)) rfl trivial (by decide) ?_
  rintro sv H' G' ⟨rfl, rfl, rfl⟩ -
  refine ⟨Nat.le_of_ble_eq_true rfl, ?_⟩
  by_cases e2 : eMFn ⟨ga, gr, gs, gb⟩ = 0
  case neg =>
    rw [if_pos e2] at hec
    repeat' ((fail_if_success with_reducible refine Stop.mk ?_);(conv=>whnf);with_reducible first|refine br_t ?_|refine br_n (fun h=>?_) fun h=>?_|refine stop ?_)
    all_goals refine Stop.mk ?_
    all_goals try exact absurd (by assumption) e2
    refine fin_id hE 0 rfl rfl rfl rfl ⟨congrArg (fun e => SV.v (.int .i64 e)) ?_, rfl, rfl⟩
    rw [hec]
  rw [if_neg (not_not_intro e2)] at hec
  rw [e2]
  by_cases h5 : fb.length ≠ gb.length ∨ fa ≠ ga
  case pos =>
    rw [if_pos h5] at hec
    repeat' ((fail_if_success with_reducible refine Stop.mk ?_);(conv=>whnf);first|with_reducible refine br_t ?_|((with_reducible refine br_n (fun h=>?_) fun h=>?_) <;> try (exfalso; omega))|with_reducible refine stop ?_)
    all_goals refine Stop.mk ?_
    all_goals try exact absurd rfl (by assumption)
    all_goals
      refine fin_id hE 0 rfl rfl rfl rfl ⟨congrArg (fun e => SV.v (.int .i64 e)) ?_, rfl, rfl⟩
      rw [hec]
  rw [if_neg h5] at hec
  repeat' ((fail_if_success with_reducible refine Stop.mk ?_);(conv=>whnf);first|((with_reducible refine br_n (fun h=>?_) fun h=>?_) <;> try (exfalso; omega))|with_reducible refine stop ?_)
  all_goals refine Stop.mk ?_
  all_goals try exact absurd rfl (by assumption)
  refine call_fn [] (valid15E_fn _ C c w fb.length fr gr gs hw ⟨by omega, fun y hy => by have := n2 y hy; omega⟩) rfl trivial (by decide) ?_
  rintro sv H' G' ⟨rfl, rfl, rfl⟩ -
  refine ⟨Nat.le_of_ble_eq_true rfl, ?_⟩
  rw [← hec]
  repeat' ((fail_if_success with_reducible refine Stop.mk ?_);(conv=>whnf);with_reducible refine stop ?_)
  all_goals refine Stop.mk ?_
  exact fin_id hE 0 rfl rfl rfl rfl ⟨rfl, rfl, rfl⟩
set_option maxHeartbeats 8000000 in
theorem rencodeE_fn {G : Gh} {A B C : Option Addr} {a b c : Nat} {x : Crt} (hG : CrtG G A B C a b c x) (hS : Sml x) :
    Ct Tryz.prog 13 [crtS A B C a b c x] [] G fun sv H' G' => (eCrt x = 0 ∧ sv = .tup [.s 0, .v (.int .i64 0)] ∧ H' = [rowB (encCrt x)]) ∨ (eCrt x ≠ 0 ∧ sv = .tup [.v (.slice none 0 0), .v (.int .i64 (eCrt x))] ∧ H' = []) := by
  refine fn_of follows [(5, (.cons 0 [] (.cons 2 [] (.cons 3 [] (.cons 5 [] (.cons 6 [] (.cons 8 [] (.cons 9 [] (.alt (.cons 1 [] (.cons 4 [] (.cons 7 [] (.cons 10 [] (.cons 11 [] (.cons 12 [] (.cons 13 [] (.cons 14 [] (.cons 15 [] .nil))))))))) (.cons 4 [] (.alt (.cons 1 [] (.cons 7 [] (.cons 10 [] (.cons 11 [] (.cons 12 [] (.cons 13 [] (.cons 14 [] (.cons 15 [] .nil)))))))) (.cons 7 [] (.alt (.cons 1 [] (.cons 10 [] (.cons 11 [] (.cons 12 [] (.cons 13 [] (.cons 14 [] (.cons 15 [] .nil))))))) (.cons 10 [] (.alt (.cons 1 [] (.cons 11 [] (.cons 12 [] (.cons 13 [] (.cons 14 [] (.cons 15 [] .nil)))))) (.cons 11 [] (.cons 1 [] (.cons 12 [] (.cons 13 [] (.cons 14 [] (.cons 15 [] .nil)))))))))))))))))))))] Tryz.func13 rfl rfl fun E hE => ?_
  unfold crtS
  repeat' ((fail_if_success with_reducible refine Stop.mk ?_);(conv=>whnf);with_reducible refine stop ?_)
  all_goals refine Stop.mk ?_
  refine call_fn [] (valid16E_fn hG hS) rfl trivial (by decide) ?_
  rintro sv H' G' ⟨rfl, rfl, rfl⟩ -
  refine ⟨Nat.le_of_ble_eq_true rfl, ?_⟩
  repeat' ((fail_if_success with_reducible refine Stop.mk ?_);(conv=>whnf);with_reducible first|refine br_n (fun h=>?_) fun h=>?_|refine drw_fast (by kernel_rfl) ?_|refine stop ?_)
  all_goals refine Stop.mk ?_
  rotate_right
  · exact fin_id hE 0 rfl rfl rfl rfl (.inr ⟨by assumption, rfl, rfl⟩)
  have he0 : eCrt x = 0 := by assumption
  have hok := (eCrt_ok hG).1 he0
  obtain ⟨⟨fa, fr, fb⟩, ⟨ga, gr, gs, gb⟩, w⟩ := x
  obtain ⟨hs, ht, hw⟩ := hG
  obtain ⟨k1, k2, k3, m1, m2, m3, m4, n1, n2⟩ := hS
  dsimp only at hs ht hw k1 k2 k3 m1 m2 m3 m4 n1 n2
  have q1 := wBs_le fb
  have q2 := wMBs_le gb
  have q3 := encI_le 400 w n2
  have q4 := wFn_le ⟨fa, fr, fb⟩
  have q5 := wMFn_le ⟨ga, gr, gs, gb⟩
  dsimp only at q4 q5
  have b1 := wFn_isb hok.1
  have b2 := wMFn_isb hok.2.1
  have b3 := encI_isb w (fun y hy => by have := n2 y hy; omega)
  have hops := okFn_ops hok.1
  dsimp only at b1 b2 hops
  dsimp only
  refine And.intro ?_ ?_
  all_goals
    repeat' ((fail_if_success with_reducible refine Stop.mk ?_);(conv=>whnf);with_reducible refine stop ?_)
    all_goals refine Stop.mk ?_
  all_goals
    refine call_fn [] (rputFunc_fn _ A a ⟨fa, fr, fb⟩ hs (by dsimp only; omega) (by dsimp only; omega) hops) rfl trivial (by decide) ?_
    rintro sv H' G' ⟨⟨A1, c1, rfl, hs1⟩, rfl⟩ hg
    replace ht := ht.to hg
    replace hw := hw.to hg
    clear hg hs
    refine ⟨Nat.le_of_ble_eq_true rfl, ?_⟩
    repeat' ((fail_if_success with_reducible refine Stop.mk ?_);(conv=>whnf);with_reducible refine stop ?_)
    all_goals refine Stop.mk ?_
  all_goals try refine And.intro ?_ ?_
  all_goals try
    repeat' ((fail_if_success with_reducible refine Stop.mk ?_);(conv=>whnf);with_reducible refine stop ?_)
    all_goals refine Stop.mk ?_
  all_goals
    refine call_fn [] (rputMFunc_fn _ B b ⟨ga, gr, gs, gb⟩ ht (by dsimp only; omega) (by dsimp only; omega)) rfl trivial (by decide) ?_
    rintro sv H' G' ⟨⟨A2, c2, rfl, hs2⟩, rfl⟩ hg
    replace hw := hw.to hg
    replace hs1 := Sl.to hg hs1
    clear hg ht
    refine ⟨Nat.le_of_ble_eq_true rfl, ?_⟩
    repeat' ((fail_if_success with_reducible refine Stop.mk ?_);(conv=>whnf);with_reducible refine stop ?_)
    all_goals refine Stop.mk ?_
  all_goals try refine And.intro ?_ ?_
  all_goals try
    repeat' ((fail_if_success with_reducible refine Stop.mk ?_);(conv=>whnf);with_reducible refine stop ?_)
    all_goals refine Stop.mk ?_
  all_goals
    refine call_fn [] (rput_inv_fn _ C c w hw (by omega) (by omega)) rfl trivial (by decide) ?_
    rintro sv H' G' ⟨⟨A3, c3, rfl, hs3⟩, rfl⟩ hg
    replace hs1 := Sl.to hg hs1
    replace hs2 := Sl.to hg hs2
    clear hg hw
    refine ⟨Nat.le_of_ble_eq_true rfl, ?_⟩
    repeat' ((fail_if_success with_reducible refine Stop.mk ?_);(conv=>whnf);with_reducible refine stop ?_)
    all_goals refine Stop.mk ?_
  all_goals try refine And.intro ?_ ?_
  all_goals try
    repeat' ((fail_if_success with_reducible refine Stop.mk ?_);(conv=>whnf);with_reducible refine stop ?_)
    all_goals refine Stop.mk ?_
  rotate_right
  · skip
    refine call_fz 3 rfl (by simp [Value.oneCell']) (enters_of Tryz.func46 rfl rfl) fun Ax cx Gx hgx hsx => ?_
    (conv => whnf)
    refine call_fz 2 rfl (by simp [Value.oneCell']) (enters_of Tryz.func46 rfl rfl) fun Ay cy Gy hgy hsy => ?_
    (conv => whnf)
    have hids := kB_of [1, 2, 3] (Sl.to hgy hsx) rfl rfl rfl (by decide)
    have hg2 : ∀ (b : Nat) (o : Obj), _ → _ := fun b o h => hgy b o (hgx b o h)
    have hcs := kBs_of [wFn ⟨fa, fr, fb⟩, wMFn ⟨ga, gr, gs, gb⟩, encI w] hsy rfl rfl (cs3_of (Sl.to hg2 hs1) (Sl.to hg2 hs2) (Sl.to hg2 hs3) b1 b2 b3)
    refine call_fn [] (rpack_fn _ Ax Ay cx cy [1, 2, 3] [wFn ⟨fa, fr, fb⟩, wMFn ⟨ga, gr, gs, gb⟩, encI w] hids hcs rfl (by show 3 ≤ 10000; decide) (by simp only [total]; omega)) rfl trivial (by decide) ?_
    rintro sv H' G' ⟨rfl, rfl⟩ -
    refine ⟨Nat.le_of_ble_eq_true rfl, ?_⟩
    repeat' ((fail_if_success with_reducible refine Stop.mk ?_);(conv=>whnf);with_reducible refine stop ?_)
    all_goals refine Stop.mk ?_
    refine ⟨byts_one _, ⟨by show (3 + (packB [1, 2, 3] [wFn ⟨fa, fr, fb⟩, wMFn ⟨ga, gr, gs, gb⟩, encI w]).length) * 1 ≤ _; simp only [packB, List.length_cons, List.length_append, List.length_nil]; have := putB_len (wFn ⟨fa, fr, fb⟩).length; have := putB_len (wMFn ⟨ga, gr, gs, gb⟩).length; have := putB_len (encI w).length; omega, ?_⟩⟩
    repeat' ((fail_if_success with_reducible refine Stop.mk ?_);(conv=>whnf);with_reducible refine stop ?_)
    all_goals refine Stop.mk ?_
    refine fin_mk hE [1] (.tup [.s 0, .v (.int .i64 0)]) [rowB (encCrt ⟨⟨fa, fr, fb⟩, ⟨ga, gr, gs, gb⟩, w⟩)] rfl ⟨?_, trivial⟩ rfl (.inl ⟨he0, rfl, rfl⟩)
    show some _ = some _
    unfold encCrt
    rw [← rowB_app]
    rfl
  all_goals
    skip
    refine call_fz 2 rfl (by simp [Value.oneCell']) (enters_of Tryz.func46 rfl rfl) fun Ax cx Gx hgx hsx => ?_
    (conv => whnf)
    refine call_fz 3 rfl (by simp [Value.oneCell']) (enters_of Tryz.func46 rfl rfl) fun Ay cy Gy hgy hsy => ?_
    (conv => whnf)
    have hids := kB_of [1, 2, 3] (Sl.to hgy hsx) rfl rfl rfl (by decide)
    have hg2 : ∀ (b : Nat) (o : Obj), _ → _ := fun b o h => hgy b o (hgx b o h)
    have hcs := kBs_of [wFn ⟨fa, fr, fb⟩, wMFn ⟨ga, gr, gs, gb⟩, encI w] hsy rfl rfl (cs3_of (Sl.to hg2 hs1) (Sl.to hg2 hs2) (Sl.to hg2 hs3) b1 b2 b3)
    refine call_fn [] (rpack_fn _ Ax Ay cx cy [1, 2, 3] [wFn ⟨fa, fr, fb⟩, wMFn ⟨ga, gr, gs, gb⟩, encI w] hids hcs rfl (by show 3 ≤ 10000; decide) (by simp only [total]; omega)) rfl trivial (by decide) ?_
    rintro sv H' G' ⟨rfl, rfl⟩ -
    refine ⟨Nat.le_of_ble_eq_true rfl, ?_⟩
    repeat' ((fail_if_success with_reducible refine Stop.mk ?_);(conv=>whnf);with_reducible refine stop ?_)
    all_goals refine Stop.mk ?_
    refine ⟨byts_one _, ⟨by show (3 + (packB [1, 2, 3] [wFn ⟨fa, fr, fb⟩, wMFn ⟨ga, gr, gs, gb⟩, encI w]).length) * 1 ≤ _; simp only [packB, List.length_cons, List.length_append, List.length_nil]; have := putB_len (wFn ⟨fa, fr, fb⟩).length; have := putB_len (wMFn ⟨ga, gr, gs, gb⟩).length; have := putB_len (encI w).length; omega, ?_⟩⟩
    repeat' ((fail_if_success with_reducible refine Stop.mk ?_);(conv=>whnf);with_reducible refine stop ?_)
    all_goals refine Stop.mk ?_
    refine fin_mk hE [1] (.tup [.s 0, .v (.int .i64 0)]) [rowB (encCrt ⟨⟨fa, fr, fb⟩, ⟨ga, gr, gs, gb⟩, w⟩)] rfl ⟨?_, trivial⟩ rfl (.inl ⟨he0, rfl, rfl⟩)
    show some _ = some _
    unfold encCrt
    rw [← rowB_app]
    rfl
end Go.Proofs.YtchebkpcgglllaaGreat.Cu

namespace Go.Proofs.YtchebkpcgglllaaGreat.Cu
open Go Go.SX Go.Proofs.YtchebkpcgglllaaGreat.VT
set_option maxRecDepth 100000
set_option linter.unusedVariables false
set_option linter.unusedSimpArgs false
def dOr (b : List Int) : Crt := if cErr b = 0 then dCrt b else zeroC
def encOr (x : Crt) : List Int := if eCrt x = 0 then encCrt x else []
theorem dec_one {b : List Int} {sv : SV} {H' : List Ob} {G' : Gh} (h : DecPost b sv H' G') : ∃ A B C a b' c, sv = .tup [crtS A B C a b' c (dOr b), .v (.int .i64 (cErr b))] ∧ H' = [] ∧ CrtG G' A B C a b' c (dOr b) := by
  unfold dOr
  by_cases h0 : cErr b = 0
  · obtain ⟨A, B, C, a, b', c, h1, h2, h3⟩ := dec_post h h0
    rw [if_pos h0, h0]
    exact ⟨A, B, C, a, b', c, h1, h2, h3⟩
  · obtain ⟨h1, h2⟩ := dec_fail h h0
    rw [if_neg h0]
    exact ⟨none, none, none, 0, 0, 0, h1, h2, zeroC_G _⟩
theorem enc_one {P : Program} {f : FuncId} {args : List SV} {G : Gh} {x : Crt} (h : Ct P f args [] G fun sv H' G' => (eCrt x = 0 ∧ sv = .tup [.s 0, .v (.int .i64 0)] ∧ H' = [rowB (encCrt x)]) ∨ (eCrt x ≠ 0 ∧ sv = .tup [.v (.slice none 0 0), .v (.int .i64 (eCrt x))] ∧ H' = [])) :
    Ct P f args [] G fun sv H' G' => (∃ A c, sv = .tup [.v (.slice A (encOr x).length c), .v (.int .i64 (eCrt x))] ∧ SlB G' A c (encOr x)) ∧ H' = [] :=
  h.fin fun E sv H' G' hE hp => by
    rcases hp with ⟨h0, rfl, rfl⟩ | ⟨h0, rfl, rfl⟩
    · have e : encOr x = encCrt x := if_pos h0
      rw [e, h0]
      exact fin_done 0 rfl (byts_one _) fun A c G2 hg hs => fin_id hE 0 rfl rfl rfl rfl ⟨⟨A, c, rfl, hs⟩, rfl⟩
    · have e : encOr x = [] := if_neg h0
      rw [e]
      exact fin_id hE 0 rfl rfl rfl rfl ⟨⟨none, 0, rfl, slB_nil _⟩, rfl⟩
set_option maxHeartbeats 16000000 in
theorem cmatch_fn {G : Gh} {Ab A B C : Option Addr} {cb a b c : Nat} {bs : List Int} {x : Crt} (hbb : isB bs) (hb : SlB G Ab cb bs) (hG : CrtG G A B C a b c x) :
    Ct Tryz.prog 3 [.v (.slice Ab bs.length cb), crtS A B C a b c x] [] G fun sv H' G' => sv = .v (.bool true) ∧ H' = [] := by
  refine fn_of follows [] Tryz.func3 rfl rfl fun E hE => ?_
  unfold crtS
  repeat' ((fail_if_success with_reducible refine Stop.mk ?_);(conv=>whnf);with_reducible refine stop ?_)
  all_goals refine Stop.mk ?_
  refine call_fn [] (awake20_fn _) rfl trivial (by decide) ?_
  rintro sv H' G' ⟨rfl, rfl⟩ hg
  refine ⟨Nat.le_of_ble_eq_true rfl, ?_⟩
  replace hG := hG.to hg
  replace hb := Sl.to hg hb
  clear hg
  repeat' ((fail_if_success with_reducible refine Stop.mk ?_);(conv=>whnf);with_reducible first|refine br_t ?_|refine br_not ?_|refine br_d (fun h=>?_) fun h=>?_|refine stop ?_)
  all_goals refine Stop.mk ?_
  ·
    refine call_fn [] (awake20_fn _) rfl trivial (by decide) ?_
    rintro sv H' G' ⟨rfl, rfl⟩ -
    refine ⟨Nat.le_of_ble_eq_true rfl, ?_⟩
    repeat' ((fail_if_success with_reducible refine Stop.mk ?_);(conv=>whnf);with_reducible refine stop ?_)
    all_goals refine Stop.mk ?_
    exact fin_id hE 0 rfl rfl rfl rfl ⟨rfl, rfl⟩
  have hl : bs.length ≤ 3000 := by omega
  refine call_fn [] (few16_fn hG) rfl trivial (by decide) ?_
  rintro sv H' G' ⟨⟨r, rfl, hfew⟩, rfl, rfl⟩ -
  refine ⟨Nat.le_of_ble_eq_true rfl, ?_⟩
  cases r
  ·
    repeat' ((fail_if_success with_reducible refine Stop.mk ?_);(conv=>whnf);with_reducible first|refine br_f ?_|refine br_not ?_|refine stop ?_)
    all_goals refine Stop.mk ?_
    refine call_fn [] (awake20_fn _) rfl trivial (by decide) ?_
    rintro sv H' G' ⟨rfl, rfl⟩ -
    refine ⟨Nat.le_of_ble_eq_true rfl, ?_⟩
    repeat' ((fail_if_success with_reducible refine Stop.mk ?_);(conv=>whnf);with_reducible refine stop ?_)
    all_goals refine Stop.mk ?_
    exact fin_id hE 0 rfl rfl rfl rfl ⟨rfl, rfl⟩
  have hS := hfew rfl
  clear hfew
  repeat' ((fail_if_success with_reducible refine Stop.mk ?_);(conv=>whnf);with_reducible first|refine br_t ?_|refine br_not ?_|refine stop ?_)
  all_goals refine Stop.mk ?_
  refine call_fn [] (cdecode_fn _ Ab cb bs hbb hb (by omega) (part_ok hbb (by omega))) rfl trivial (by decide) ?_
  intro sv H' G2 hp hg
  obtain ⟨A1, B1, C1, a1, b1, c1, rfl, rfl, hG1⟩ := dec_one hp
  replace hG := hG.to hg
  replace hb := Sl.to hg hb
  clear hg hp
  refine ⟨Nat.le_of_ble_eq_true rfl, ?_⟩
  unfold crtS
  repeat' ((fail_if_success with_reducible refine Stop.mk ?_);(conv=>whnf);with_reducible refine stop ?_)
  all_goals refine Stop.mk ?_
  refine call_fn [] (rdecode_fn _ Ab cb bs hbb hb (by omega) (part_ok hbb (by omega))) rfl trivial (by decide) ?_
  intro sv H' G3 hp hg
  obtain ⟨A2, B2, C2, a2, b2, c2, rfl, rfl, hG2⟩ := dec_one hp
  replace hG := hG.to hg
  replace hG1 := hG1.to hg
  clear hg hp hb
  refine ⟨Nat.le_of_ble_eq_true rfl, ?_⟩
  unfold crtS
  generalize dOr bs = y at *
  generalize cErr bs = e at *
  repeat' ((fail_if_success with_reducible refine Stop.mk ?_);(conv=>whnf);with_reducible refine stop ?_)
  all_goals refine Stop.mk ?_
  refine call_fn [] (enc_one (cencode_fn hG hS)) rfl trivial (by decide) ?_
  rintro sv H' G4 ⟨⟨A3, c3, rfl, h3⟩, rfl⟩ hg
  replace hG := hG.to hg
  replace hG1 := hG1.to hg
  replace hG2 := hG2.to hg
  clear hg
  refine ⟨Nat.le_of_ble_eq_true rfl, ?_⟩
  repeat' ((fail_if_success with_reducible refine Stop.mk ?_);(conv=>whnf);with_reducible refine stop ?_)
  all_goals refine Stop.mk ?_
  refine call_fn [] (enc_one (rencodeE_fn hG hS)) rfl trivial (by decide) ?_
  rintro sv H' G5 ⟨⟨A4, c4, rfl, h4⟩, rfl⟩ hg
  replace hG1 := hG1.to hg
  replace hG2 := hG2.to hg
  replace h3 := Sl.to hg h3
  clear hg hG
  refine ⟨Nat.le_of_ble_eq_true rfl, ?_⟩
  generalize eCrt x = e2 at *
  repeat' ((fail_if_success with_reducible refine Stop.mk ?_);(conv=>whnf);with_reducible refine stop ?_)
  all_goals refine Stop.mk ?_
  refine call_fn [] (same16_fn hG1 hG2) rfl trivial (by decide) ?_
  rintro sv H' G8 ⟨rfl, rfl⟩ hg
  rw [decide_eq_true (sameC_iff.2 rfl)]
  refine ⟨Nat.le_of_ble_eq_true rfl, ?_⟩
  repeat' ((fail_if_success with_reducible refine Stop.mk ?_);(conv=>whnf);with_reducible first|refine br_t ?_|refine br_f ?_|refine br_e (fun h=>?_) fun h=>?_|refine stop ?_)
  all_goals refine Stop.mk ?_
  all_goals try (exfalso; first | exact h rfl | exact h (by decide) | omega)
  refine call_fn [] (same_fn _ A3 A4 c3 c4 (encOr x) (encOr x) (Sl.to hg h3) (Sl.to hg h4)) rfl trivial (by decide) ?_
  rintro sv H' G9 ⟨rfl, rfl, rfl⟩ -
  rw [decide_eq_true rfl]
  refine ⟨Nat.le_of_ble_eq_true rfl, ?_⟩
  repeat' ((fail_if_success with_reducible refine Stop.mk ?_);(conv=>whnf);with_reducible first|refine br_t ?_|refine stop ?_)
  all_goals refine Stop.mk ?_
  all_goals try (exfalso; first | exact h rfl | exact h (by decide) | omega)
  have hb9 : ((e2 : Int) == e2) = true := beq_self_eq_true e2
  exact fin_id hE 0 rfl rfl rfl rfl ⟨congrArg (fun q => SV.v (.bool q)) hb9, rfl⟩
end Go.Proofs.YtchebkpcgglllaaGreat.Cu
