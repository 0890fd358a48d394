/- Certificates: the law of the bijection. -/
import Derived.Test.YtchebkpcgglllaaGreatCc9
import Derived.Test.YtchebkpcgglllaaGreatSXc
namespace Go.Proofs.YtchebkpcgglllaaGreat.Cu
open Go Go.SX Go.Proofs.YtchebkpcgglllaaGreat.VT
set_option maxRecDepth 100000
set_option linter.unusedVariables false
set_option linter.unusedSimpArgs false
set_option maxHeartbeats 16000000 in
theorem cbij_fn {G : Gh} {A B C : Option Addr} {a b c : Nat} (x : Crt) (hG : CrtG G A B C a b c x) :
    Ct Tryz.prog 4 [crtS A B C a b c x] [] G fun sv H' G' => sv = .v (.bool true) ∧ H' = [] := by
  refine fn_of follows [] Tryz.func4 rfl rfl fun E hE => ?_
  unfold crtS
  repeat' ((fail_if_success with_reducible refine Stop.mk ?_);(conv=>whnf);with_reducible first|refine br_t ?_|refine br_f ?_|refine br_nn ?_|refine br_ns ?_|refine br_not ?_|refine br_d (fun h=>?_) fun h=>?_|refine br_e (fun h=>?_) fun h=>?_|refine br_n (fun h=>?_) fun h=>?_|refine drw_fast (by kernel_rfl) ?_|refine chk (by kernel_rfl) ?_|refine stop ?_)
  all_goals refine Stop.mk ?_
  refine call_fn [] (awake20_fn _) rfl trivial (by decide) ?_
  rintro sv H' G' ⟨rfl, rfl⟩ hg
  refine ⟨Nat.le_of_ble_eq_true rfl, ?_⟩
  replace hG := hG.to hg
  clear hg
  repeat' ((fail_if_success with_reducible refine Stop.mk ?_);(conv=>whnf);with_reducible first|refine br_t ?_|refine br_f ?_|refine br_nn ?_|refine br_ns ?_|refine br_not ?_|refine br_d (fun h=>?_) fun h=>?_|refine br_e (fun h=>?_) fun h=>?_|refine br_n (fun h=>?_) fun h=>?_|refine drw_fast (by kernel_rfl) ?_|refine chk (by kernel_rfl) ?_|refine stop ?_)
  all_goals refine Stop.mk ?_
  refine call_fn [] (few16_fn hG) rfl trivial (by decide) ?_
  rintro sv H' G' ⟨⟨r, rfl, hfew⟩, rfl, rfl⟩ -
  refine ⟨Nat.le_of_ble_eq_true rfl, ?_⟩
  cases r
  ·
    repeat' ((fail_if_success with_reducible refine Stop.mk ?_);(conv=>whnf);with_reducible first|refine br_t ?_|refine br_f ?_|refine br_nn ?_|refine br_ns ?_|refine br_not ?_|refine br_d (fun h=>?_) fun h=>?_|refine br_e (fun h=>?_) fun h=>?_|refine br_n (fun h=>?_) fun h=>?_|refine drw_fast (by kernel_rfl) ?_|refine chk (by kernel_rfl) ?_|refine stop ?_)
    all_goals refine Stop.mk ?_
    refine call_fn [] (awake20_fn _) rfl trivial (by decide) ?_
    rintro sv H' G' ⟨rfl, rfl⟩ -
    refine ⟨Nat.le_of_ble_eq_true rfl, ?_⟩
    repeat' ((fail_if_success with_reducible refine Stop.mk ?_);(conv=>whnf);with_reducible first|refine br_t ?_|refine br_f ?_|refine br_nn ?_|refine br_ns ?_|refine br_not ?_|refine br_d (fun h=>?_) fun h=>?_|refine br_e (fun h=>?_) fun h=>?_|refine br_n (fun h=>?_) fun h=>?_|refine drw_fast (by kernel_rfl) ?_|refine chk (by kernel_rfl) ?_|refine stop ?_)
    all_goals refine Stop.mk ?_
    exact fin_id hE 0 rfl rfl rfl rfl ⟨rfl, rfl⟩
  have hS := hfew rfl
  clear hfew
  repeat' ((fail_if_success with_reducible refine Stop.mk ?_);(conv=>whnf);with_reducible first|refine br_t ?_|refine br_f ?_|refine br_nn ?_|refine br_ns ?_|refine br_not ?_|refine br_d (fun h=>?_) fun h=>?_|refine br_e (fun h=>?_) fun h=>?_|refine br_n (fun h=>?_) fun h=>?_|refine drw_fast (by kernel_rfl) ?_|refine chk (by kernel_rfl) ?_|refine stop ?_)
  all_goals refine Stop.mk ?_
  refine call_fn [] (cencode_fn hG hS) rfl trivial (by decide) ?_
  intro sv H' G1 hp hg
  replace hG := hG.to hg
  clear hg
  have hck := eCrt_ok hG
  by_cases h0 : eCrt x = 0
  case neg =>
    obtain ⟨_, rfl, rfl⟩ := hp.resolve_left (fun h => h0 h.1)
    generalize eCrt x = e at *
    clear hp
    refine ⟨Nat.le_of_ble_eq_true rfl, ?_⟩
    repeat' ((fail_if_success with_reducible refine Stop.mk ?_);(conv=>whnf);with_reducible first|refine br_t ?_|refine br_f ?_|refine br_nn ?_|refine br_ns ?_|refine br_not ?_|refine br_d (fun h=>?_) fun h=>?_|refine br_e (fun h=>?_) fun h=>?_|refine br_n (fun h=>?_) fun h=>?_|refine drw_fast (by kernel_rfl) ?_|refine chk (by kernel_rfl) ?_|refine stop ?_)
    all_goals refine Stop.mk ?_
    refine call_fn [] (valid16_fn hG hS) rfl trivial (by decide) ?_
    rintro sv H' G' ⟨e', rfl, hv, rfl, rfl⟩ -
    refine ⟨Nat.le_of_ble_eq_true rfl, ?_⟩
    have he' : e' ≠ 0 := fun h9 => h0 (hck.2 (hv.1 h9))
    repeat' ((fail_if_success with_reducible refine Stop.mk ?_);(conv=>whnf);first|with_reducible refine br_t ?_|with_reducible refine br_f ?_|with_reducible refine br_nn ?_|with_reducible refine br_ns ?_|with_reducible refine br_not ?_|((with_reducible refine br_d (fun h=>?_) fun h=>?_) <;> try (exfalso; omega))|((with_reducible refine br_e (fun h=>?_) fun h=>?_) <;> try (exfalso; omega))|((with_reducible refine br_n (fun h=>?_) fun h=>?_) <;> try (exfalso; omega))|with_reducible refine drw_fast (by kernel_rfl) ?_|with_reducible refine chk (by kernel_rfl) ?_|with_reducible refine stop ?_)
    all_goals refine Stop.mk ?_
    all_goals try (exfalso; first | exact h rfl | exact h (by decide) | omega)
    all_goals exact fin_id hE 0 rfl rfl rfl rfl ⟨rfl, rfl⟩
  obtain ⟨_, rfl, rfl⟩ := hp.resolve_right (fun h => h.1 h0)
  clear hp
  have hok := hck.1 h0
  have hF := fit_of hok hS
  have hdec := enc_ok hok hF
  refine ⟨Nat.le_of_ble_eq_true rfl, ?_⟩
  repeat' ((fail_if_success with_reducible refine Stop.mk ?_);(conv=>whnf);with_reducible first|refine br_t ?_|refine br_f ?_|refine br_nn ?_|refine br_ns ?_|refine br_not ?_|refine br_d (fun h=>?_) fun h=>?_|refine br_e (fun h=>?_) fun h=>?_|refine br_n (fun h=>?_) fun h=>?_|refine drw_fast (by kernel_rfl) ?_|refine chk (by kernel_rfl) ?_|refine stop ?_)
  all_goals refine Stop.mk ?_
  refine call_fn [] (valid16_fn hG hS) rfl trivial (by decide) ?_
  rintro sv H' G' ⟨e', rfl, hv, rfl, rfl⟩ -
  refine ⟨Nat.le_of_ble_eq_true rfl, ?_⟩
  obtain rfl : e' = 0 := hv.2 hok
  repeat' ((fail_if_success with_reducible refine Stop.mk ?_);(conv=>whnf);with_reducible first|refine br_t ?_|refine br_f ?_|refine br_nn ?_|refine br_ns ?_|refine br_not ?_|refine br_d (fun h=>?_) fun h=>?_|refine br_e (fun h=>?_) fun h=>?_|refine br_n (fun h=>?_) fun h=>?_|refine drw_fast (by kernel_rfl) ?_|refine chk (by kernel_rfl) ?_|refine stop ?_)
  all_goals refine Stop.mk ?_
  all_goals try (exfalso; first | exact h rfl | exact h (by decide) | omega)
  refine call_fz 1 rfl (byts_one _) (enters_of Tryz.func10 rfl rfl) fun Az cz Gz hgz hsz => ?_
  (conv => whnf)
  replace hG := hG.to hgz
  refine call_fn [] (cdecode_fn _ Az cz (encCrt x) hF.b (SlB.of _ hsz rfl rfl rfl) (by have := hF.l; omega) (part_ok hF.b (by have := hF.l; omega))) rfl trivial (by decide) ?_
  intro sv H' G2 hp hg
  obtain ⟨A1, B1, C1, a1, b1, c1, rfl, rfl, hG1⟩ := dec_post hp hdec.1
  rw [hdec.2] at hG1 ⊢
  replace hG := hG.to hg
  clear hp hg
  refine ⟨Nat.le_of_ble_eq_true rfl, ?_⟩
  unfold crtS
  repeat' ((fail_if_success with_reducible refine Stop.mk ?_);(conv=>whnf);with_reducible first|refine br_t ?_|refine br_f ?_|refine br_nn ?_|refine br_ns ?_|refine br_not ?_|refine br_d (fun h=>?_) fun h=>?_|refine br_e (fun h=>?_) fun h=>?_|refine br_n (fun h=>?_) fun h=>?_|refine drw_fast (by kernel_rfl) ?_|refine chk (by kernel_rfl) ?_|refine stop ?_)
  all_goals refine Stop.mk ?_
  all_goals try (exfalso; first | exact h rfl | exact h (by decide) | omega)
  refine call_fn [] (same16_fn hG1 hG) rfl trivial (by decide) ?_
  rintro sv H' G8 ⟨rfl, rfl⟩ -
  rw [decide_eq_true (sameC_iff.2 rfl)]
  refine ⟨Nat.le_of_ble_eq_true rfl, ?_⟩
  repeat' ((fail_if_success with_reducible refine Stop.mk ?_);(conv=>whnf);with_reducible first|refine br_t ?_|refine br_f ?_|refine br_nn ?_|refine br_ns ?_|refine br_not ?_|refine br_d (fun h=>?_) fun h=>?_|refine br_e (fun h=>?_) fun h=>?_|refine br_n (fun h=>?_) fun h=>?_|refine drw_fast (by kernel_rfl) ?_|refine chk (by kernel_rfl) ?_|refine stop ?_)
  all_goals refine Stop.mk ?_
  all_goals try (exfalso; first | exact h rfl | exact h (by decide) | omega)
  exact fin_id hE 0 rfl rfl rfl rfl ⟨rfl, rfl⟩
end Go.Proofs.YtchebkpcgglllaaGreat.Cu
