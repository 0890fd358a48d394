/- Certificates: equality, and the law's fixed results. -/
import Derived.Test.YtchebkpcgglllaaGreatCcy
import Derived.Test.YtchebkpcgglllaaGreatFu9
import Derived.Test.YtchebkpcgglllaaGreatFuB
import Derived.Test.YtchebkpcgglllaaGreatWi6
import Derived.Test.YtchebkpcgglllaaGreatSXc
namespace Go.Proofs.YtchebkpcgglllaaGreat.Cu
open Go Go.SX Go.Proofs.YtchebkpcgglllaaGreat.VT
set_option maxRecDepth 100000
set_option linter.unusedVariables false
set_option linter.unusedSimpArgs false
def sameC (x y : Crt) : Prop := x.s = y.s ∧ x.t = y.t ∧ x.w = y.w
instance (x y : Crt) : Decidable (sameC x y) := inferInstanceAs (Decidable (_ ∧ _))
theorem sameC_iff {x y : Crt} : sameC x y ↔ x = y := by
  obtain ⟨a, b, c⟩ := x
  obtain ⟨d, e, f⟩ := y
  unfold sameC
  simp
set_option maxHeartbeats 8000000 in
theorem same16_fn {G : Gh} {A B C A' B' C' : Option Addr} {a b c a' b' c' : Nat} {x y : Crt} (h : CrtG G A B C a b c x) (h' : CrtG G A' B' C' a' b' c' y) :
    Ct Tryz.prog 14 [crtS A B C a b c x, crtS A' B' C' a' b' c' y] [] G fun sv H' G' => sv = .v (.bool (decide (sameC x y))) ∧ H' = [] := by
  obtain ⟨⟨fa, fr, fb⟩, ⟨ga, gr, gs, gb⟩, w⟩ := x
  obtain ⟨⟨fa', fr', fb'⟩, ⟨ga', gr', gs', gb'⟩, w'⟩ := y
  obtain ⟨hs, ht, hw⟩ := h
  obtain ⟨hs', ht', hw'⟩ := h'
  dsimp only at hs ht hw hs' ht' hw'
  refine fn_of follows [] Tryz.func14 rfl rfl fun E hE => ?_
  unfold crtS
  dsimp only
  repeat' ((fail_if_success with_reducible refine Stop.mk ?_);(conv=>whnf);with_reducible refine stop ?_)
  all_goals refine Stop.mk ?_
  refine call_fn [] (same7_fn _ A A' a a' ⟨fa, fr, fb⟩ ⟨fa', fr', fb'⟩ hs hs') rfl trivial (by decide) ?_
  rintro sv H' G' ⟨rfl, rfl, rfl⟩ -
  refine ⟨Nat.le_of_ble_eq_true rfl, ?_⟩
  by_cases h1 : (⟨fa, fr, fb⟩ : Fn) = ⟨fa', fr', fb'⟩
  case neg =>
    rw [decide_eq_false h1]
    repeat' ((fail_if_success with_reducible refine Stop.mk ?_);(conv=>whnf);with_reducible first|refine br_f ?_|refine stop ?_)
    all_goals refine Stop.mk ?_
    refine fin_id hE 0 rfl rfl rfl rfl ⟨?_, rfl⟩
    rw [decide_eq_false (fun h9 => h1 h9.1)]
  rw [decide_eq_true h1]
  repeat' ((fail_if_success with_reducible refine Stop.mk ?_);(conv=>whnf);with_reducible first|refine br_t ?_|refine stop ?_)
  all_goals refine Stop.mk ?_
  refine call_fn [] (same8_fn _ B B' b b' ⟨ga, gr, gs, gb⟩ ⟨ga', gr', gs', gb'⟩ ht ht') rfl trivial (by decide) ?_
  rintro sv H' G' ⟨rfl, rfl, rfl⟩ -
  refine ⟨Nat.le_of_ble_eq_true rfl, ?_⟩
  by_cases h2 : (⟨ga, gr, gs, gb⟩ : MFn) = ⟨ga', gr', gs', gb'⟩
  case neg =>
    rw [decide_eq_false h2]
    repeat' ((fail_if_success with_reducible refine Stop.mk ?_);(conv=>whnf);with_reducible first|refine br_f ?_|refine stop ?_)
    all_goals refine Stop.mk ?_
    refine fin_id hE 0 rfl rfl rfl rfl ⟨?_, rfl⟩
    rw [decide_eq_false (fun h9 => h2 h9.2.1)]
  rw [decide_eq_true h2]
  repeat' ((fail_if_success with_reducible refine Stop.mk ?_);(conv=>whnf);with_reducible first|refine br_t ?_|refine stop ?_)
  all_goals refine Stop.mk ?_
  refine call_fn [] (same15_fn _ C C' c c' w w' hw hw') rfl trivial (by decide) ?_
  rintro sv H' G' ⟨rfl, rfl, rfl⟩ -
  refine ⟨Nat.le_of_ble_eq_true rfl, ?_⟩
  repeat' ((fail_if_success with_reducible refine Stop.mk ?_);(conv=>whnf);with_reducible refine stop ?_)
  all_goals refine Stop.mk ?_
  refine fin_id hE 0 rfl rfl rfl rfl ⟨congrArg (fun b => SV.v (.bool b)) ?_, rfl⟩
  refine bdec ?_
  rw [decide_eq_true_iff]
  exact ⟨fun h9 => ⟨h1, h2, h9⟩, fun h9 => h9.2.2⟩
def exC : Crt := ⟨⟨0, 1, [⟨[], ⟨3, 0, 0, 0⟩⟩]⟩, ⟨0, 1, 0, [⟨[], ⟨3, 0, 0, 0⟩⟩]⟩, [[⟨0, 0⟩]]⟩
def crtB : List Int := [82, 67, 1, 1, 6, 0, 1, 1, 0, 3, 0, 2, 7, 0, 1, 0, 1, 0, 3, 0, 3, 3, 1, 0, 0]
def zeroC : Crt := ⟨⟨0, 0, []⟩, ⟨0, 0, 0, []⟩, []⟩
theorem exC_sml : Sml exC := ⟨by decide, by decide, by decide, by decide, by decide, by decide, by decide, by decide, by decide⟩
theorem zeroC_sml : Sml zeroC := ⟨by decide, by decide, by decide, by decide, by decide, by decide, by decide, by decide, by decide⟩
theorem exC_enc : encCrt exC = crtB := by decide +kernel
theorem exC_err : eCrt exC = 0 := by decide +kernel
theorem zeroC_err : eCrt zeroC = 14 := by decide +kernel
theorem zeroC_G (G : Gh) : CrtG G none none none 0 0 0 zeroC := ⟨Kd.S.none_ _ _, Kd.S.none_ _ _, Kd.S.none_ _ _⟩
theorem dec_post {b : List Int} {sv : SV} {H' : List Ob} {G' : Gh} (h : DecPost b sv H' G') (h0 : cErr b = 0) : ∃ A B C a b' c, sv = .tup [crtS A B C a b' c (dCrt b), .v (.int .i64 0)] ∧ H' = [] ∧ CrtG G' A B C a b' c (dCrt b) := by
  obtain ⟨rfl, ⟨_, A, B, C, a, b', c, rfl, h1, h2, h3⟩ | ⟨h9, _⟩⟩ := h
  · exact ⟨A, B, C, a, b', c, rfl, rfl, ⟨h1, h2, h3⟩⟩
  · exact absurd h0 h9
theorem dec_fail {b : List Int} {sv : SV} {H' : List Ob} {G' : Gh} (h : DecPost b sv H' G') (h0 : cErr b ≠ 0) : sv = .tup [crt0, .v (.int .i64 (cErr b))] ∧ H' = [] := by
  obtain ⟨rfl, ⟨h9, _⟩ | ⟨_, rfl⟩⟩ := h
  · exact absurd h9 h0
  · exact ⟨rfl, rfl⟩
set_option maxHeartbeats 16000000 in
theorem awake20_fn (G : Gh) : Ct Tryz.prog 8 [] [] G fun sv H' G' => sv = .v (.bool true) ∧ H' = [] := by
  refine fn_of follows [] Tryz.func8 rfl rfl fun E hE => ?_
  repeat' ((fail_if_success with_reducible refine Stop.mk ?_);(conv=>whnf);with_reducible refine stop ?_)
  all_goals refine Stop.mk ?_
  refine call_fz 1 rfl (by simp [Value.oneCell']) (enters_of Tryz.func12 rfl rfl) fun Aa ca Ga hga hsa => ?_
  (conv => whnf)
  refine call_fz 2 rfl (by simp [Value.oneCell']) (enters_of Tryz.func12 rfl rfl) fun Ab cb Gb hgb hsb => ?_
  (conv => whnf)
  refine call_fz 3 rfl (by simp [Value.oneCell']) (enters_of Tryz.func12 rfl rfl) fun Ac cc Gc hgc hsc => ?_
  (conv => whnf)
  refine call_lit 4 1 rfl rfl rfl (by decide) (enters_of Tryz.func12 rfl rfl) ?_
  (conv => whnf)
  refine call_fz 4 rfl (by simp [Value.oneCell']) (enters_of Tryz.func12 rfl rfl) fun Ad cd Gd hgd hsd => ?_
  (conv => whnf)
  have h1 : kBlk.S Ga Aa ca exC.s.blocks := by
    refine Kd.S.of hsa rfl (by kernel_rfl) ⟨[[.slice none 0 0, .int .i64 3, .int .i64 0, .int .i64 0, .int .i64 0]], ⟨⟨none, 0, rfl, Kd.S.none_ _ _, ?_⟩, trivial⟩, rfl⟩
    unfold Trm.ok in64; decide
  have h2 : kMBlk.S Gb Ab cb exC.t.blocks := by
    refine Kd.S.of hsb rfl (by kernel_rfl) ⟨[[.slice none 0 0, .int .i64 3, .int .i64 0, .int .i64 0, .int .i64 0]], ⟨⟨none, 0, rfl, Kd.S.none_ _ _, ?_⟩, trivial⟩, rfl⟩
    unfold Trm.ok in64; decide
  have h3 : kPr.S Gc Ac cc [⟨0, 0⟩] := by
    refine Kd.S.of hsc rfl (by kernel_rfl) ⟨[[.int .i64 0, .int .i64 0]], ⟨⟨rfl, ?_⟩, trivial⟩, rfl⟩
    unfold in64; decide
  have h4 : kPrs.S Gd Ad cd exC.w := Kd.S.of hsd rfl rfl ⟨[[.slice Ac 1 cc]], ⟨⟨Ac, cc, rfl, h3.to hgd⟩, trivial⟩, rfl⟩
  have hG : CrtG Gd Aa Ab Ad ca cb cd exC := ⟨((h1.to hgb).to hgc).to hgd, (h2.to hgc).to hgd, h4⟩
  clear h1 h2 h3 h4
  have hok := (eCrt_ok hG).1 exC_err
  have hdec := enc_ok hok (fit_of hok exC_sml)
  rw [exC_enc] at hdec
  refine call_fn [] (cencode_fn hG exC_sml) rfl trivial (by decide) ?_
  intro sv H' G1 hp hg
  obtain ⟨_, rfl, rfl⟩ := hp.resolve_right (fun h => h.1 exC_err)
  rw [exC_enc]
  replace hG := hG.to hg
  clear hp hg
  refine ⟨Nat.le_of_ble_eq_true rfl, ?_⟩
  repeat' ((fail_if_success with_reducible refine Stop.mk ?_);(conv=>whnf);with_reducible refine stop ?_)
  all_goals refine Stop.mk ?_
  refine call_fz 6 rfl (by simp [Value.oneCell']) (enters_of Tryz.func10 rfl rfl) fun Aw cw Gw hgw hsw => ?_
  (conv => whnf)
  replace hG := hG.to hgw
  have hw : SlB Gw Aw cw crtB := SlB.of crtB hsw rfl (by kernel_rfl) rfl
  clear hsw hgw
  refine call_fn [] (cdecode_fn _ Aw cw crtB (by decide) hw (by decide) (part_ok (by decide) (by decide))) rfl trivial (by decide) ?_
  intro sv H' G2 hp hg
  obtain ⟨A1, B1, C1, a1, b1, c1, rfl, rfl, hG1⟩ := dec_post hp hdec.1
  rw [hdec.2] at hG1 ⊢
  replace hG := hG.to hg
  replace hw := Sl.to hg hw
  clear hp hg
  refine ⟨Nat.le_of_ble_eq_true rfl, ?_⟩
  repeat' ((fail_if_success with_reducible refine Stop.mk ?_);(conv=>whnf);with_reducible refine stop ?_)
  all_goals refine Stop.mk ?_
  have hcap : 25 ≤ cw := hw.cap
  refine ⟨⟨by omega, by omega⟩, ?_⟩
  repeat' ((fail_if_success with_reducible refine Stop.mk ?_);(conv=>whnf);with_reducible refine stop ?_)
  all_goals refine Stop.mk ?_
  intro A' hA'
  obtain rfl : A' = Aw := by rw [hA']; split; · rfl
                             cases Aw <;> simp [Addr.add]
  clear hA'
  repeat' ((fail_if_success with_reducible refine Stop.mk ?_);(conv=>whnf);with_reducible refine stop ?_)
  all_goals refine Stop.mk ?_
  refine call_fn [] (cdecode_fn _ A' cw [82, 67] (by decide) (slB_take hw 2 (by decide)) (by decide) (part_ok (by decide) (by decide))) rfl trivial (by decide) ?_
  intro sv H' G3 hp hg
  obtain ⟨rfl, rfl⟩ := dec_fail hp (by decide +kernel)
  rw [show cErr [82, 67] = 1 by decide +kernel]
  replace hG := hG.to hg
  replace hG1 := hG1.to hg
  replace hw := Sl.to hg hw
  clear hp hg
  refine ⟨Nat.le_of_ble_eq_true rfl, ?_⟩
  unfold crt0
  repeat' ((fail_if_success with_reducible refine Stop.mk ?_);(conv=>whnf);with_reducible refine stop ?_)
  all_goals refine Stop.mk ?_
  refine call_fz 10 rfl (by simp [Value.oneCell']) (enters_of Tryz.func10 rfl rfl) fun Ax cx Gx hgx hsx => ?_
  (conv => whnf)
  replace hG := hG.to hgx
  replace hG1 := hG1.to hgx
  replace hw := Sl.to hgx hw
  refine call_fn [] (cdecode_fn _ Ax cx [82, 82, 1] (by decide) (SlB.of _ hsx rfl (by kernel_rfl) rfl) (by decide) (part_ok (by decide) (by decide))) rfl trivial (by decide) ?_
  intro sv H' G4 hp hg
  obtain ⟨rfl, rfl⟩ := dec_fail hp (by decide +kernel)
  rw [show cErr [82, 82, 1] = 4 by decide +kernel]
  replace hG := hG.to hg
  replace hG1 := hG1.to hg
  replace hw := Sl.to hg hw
  clear hp hg hsx hgx
  refine ⟨Nat.le_of_ble_eq_true rfl, ?_⟩
  unfold crt0
  repeat' ((fail_if_success with_reducible refine Stop.mk ?_);(conv=>whnf);with_reducible refine stop ?_)
  all_goals refine Stop.mk ?_
  refine call_fz 12 rfl (by simp [Value.oneCell']) (enters_of Tryz.func10 rfl rfl) fun Ay cy Gy hgy hsy => ?_
  (conv => whnf)
  replace hG := hG.to hgy
  replace hG1 := hG1.to hgy
  replace hw := Sl.to hgy hw
  refine call_fn [] (cdecode_fn _ Ay cy [82, 67, 2] (by decide) (SlB.of _ hsy rfl (by kernel_rfl) rfl) (by decide) (part_ok (by decide) (by decide))) rfl trivial (by decide) ?_
  intro sv H' G5 hp hg
  obtain ⟨rfl, rfl⟩ := dec_fail hp (by decide +kernel)
  rw [show cErr [82, 67, 2] = 5 by decide +kernel]
  replace hG := hG.to hg
  replace hG1 := hG1.to hg
  replace hw := Sl.to hg hw
  clear hp hg hsy hgy
  refine ⟨Nat.le_of_ble_eq_true rfl, ?_⟩
  unfold crt0
  repeat' ((fail_if_success with_reducible refine Stop.mk ?_);(conv=>whnf);with_reducible refine stop ?_)
  all_goals refine Stop.mk ?_
  refine call_fn [] (cencode_fn (zeroC_G _) zeroC_sml) rfl trivial (by decide) ?_
  intro sv H' G6 hp hg
  obtain ⟨_, rfl, rfl⟩ := hp.resolve_left (fun h => by have := h.1; rw [zeroC_err] at this; exact absurd this (by decide))
  rw [zeroC_err]
  replace hG := hG.to hg
  replace hG1 := hG1.to hg
  replace hw := Sl.to hg hw
  clear hp hg
  refine ⟨Nat.le_of_ble_eq_true rfl, ?_⟩
  repeat' ((fail_if_success with_reducible refine Stop.mk ?_);(conv=>whnf);with_reducible refine stop ?_)
  all_goals refine Stop.mk ?_
  refine call_fz 7 rfl (byts_one _) (enters_of Tryz.func15 rfl rfl) fun Az cz Gz hgz hsz => ?_
  (conv => whnf)
  replace hG := hG.to hgz
  replace hG1 := hG1.to hgz
  refine call_fn [] (same_fn _ Az A' cz cw crtB crtB (SlB.of _ hsz rfl rfl rfl) (Sl.to hgz hw)) rfl trivial (by decide) ?_
  rintro sv H' G7 ⟨rfl, rfl, rfl⟩ -
  rw [decide_eq_true rfl]
  refine ⟨Nat.le_of_ble_eq_true rfl, ?_⟩
  repeat' ((fail_if_success with_reducible refine Stop.mk ?_);(conv=>whnf);with_reducible first|refine br_t ?_|refine br_f ?_|refine br_e (fun h=>?_) fun h=>?_|refine stop ?_)
  all_goals refine Stop.mk ?_
  all_goals try (exfalso; first | exact h rfl | exact h (by decide))
  refine call_fn [] (same16_fn hG1 hG) rfl trivial (by decide) ?_
  rintro sv H' G8 ⟨rfl, rfl⟩ -
  rw [decide_eq_true (sameC_iff.2 rfl)]
  refine ⟨Nat.le_of_ble_eq_true rfl, ?_⟩
  repeat' ((fail_if_success with_reducible refine Stop.mk ?_);(conv=>whnf);with_reducible first|refine br_t ?_|refine br_f ?_|refine br_e (fun h=>?_) fun h=>?_|refine stop ?_)
  all_goals refine Stop.mk ?_
  all_goals try (exfalso; first | exact h rfl | exact h (by decide))
  exact fin_id hE 0 rfl rfl rfl rfl ⟨rfl, rfl⟩
end Go.Proofs.YtchebkpcgglllaaGreat.Cu
