/- Certificates: the law of the canonical form. -/
import Derived.Test.YtchebkpcgglllaaGreatCc9
import Derived.Test.YtchebkpcgglllaaGreatCcM
import Derived.Test.YtchebkpcgglllaaGreatCcE
import Derived.Test.YtchebkpcgglllaaGreatSXc
namespace Go.Proofs.YtchebkpcgglllaaGreat.Cu
open Go Go.SX Go.Proofs.YtchebkpcgglllaaGreat.VT
set_option maxRecDepth 100000
set_option linter.unusedVariables false
set_option linter.unusedSimpArgs false
set_option maxHeartbeats 16000000 in
theorem ccan_fn {G : Gh} {A : Option Addr} {c : Nat} {b : List Int} (hbb : isB b) (hb : SlB G A c b) :
    Ct Tryz.prog 5 [.v (.slice A b.length c)] [] G fun sv H' G' => sv = .v (.bool true) ∧ H' = [] := by
  refine fn_of follows [] Tryz.func5 rfl rfl fun E hE => ?_
  repeat' ((fail_if_success with_reducible refine Stop.mk ?_);(conv=>whnf);with_reducible first|refine br_t ?_|refine br_f ?_|refine br_nn ?_|refine br_ns ?_|refine br_not ?_|refine br_d (fun h=>?_) fun h=>?_|refine br_e (fun h=>?_) fun h=>?_|refine br_n (fun h=>?_) fun h=>?_|refine drw_fast (by kernel_rfl) ?_|refine chk (by kernel_rfl) ?_|refine stop ?_)
  all_goals refine Stop.mk ?_
  refine call_fn [] (awake20_fn _) rfl trivial (by decide) ?_
  rintro sv H' G' ⟨rfl, rfl⟩ hg
  refine ⟨Nat.le_of_ble_eq_true rfl, ?_⟩
  replace hb := Sl.to hg hb
  clear hg
  repeat' ((fail_if_success with_reducible refine Stop.mk ?_);(conv=>whnf);with_reducible first|refine br_t ?_|refine br_f ?_|refine br_nn ?_|refine br_ns ?_|refine br_not ?_|refine br_d (fun h=>?_) fun h=>?_|refine br_e (fun h=>?_) fun h=>?_|refine br_n (fun h=>?_) fun h=>?_|refine drw_fast (by kernel_rfl) ?_|refine chk (by kernel_rfl) ?_|refine stop ?_)
  all_goals refine Stop.mk ?_
  ·
    refine call_fn [] (awake20_fn _) rfl trivial (by decide) ?_
    rintro sv H' G' ⟨rfl, rfl⟩ -
    refine ⟨Nat.le_of_ble_eq_true rfl, ?_⟩
    repeat' ((fail_if_success with_reducible refine Stop.mk ?_);(conv=>whnf);with_reducible first|refine br_t ?_|refine br_f ?_|refine br_nn ?_|refine br_ns ?_|refine br_not ?_|refine br_d (fun h=>?_) fun h=>?_|refine br_e (fun h=>?_) fun h=>?_|refine br_n (fun h=>?_) fun h=>?_|refine drw_fast (by kernel_rfl) ?_|refine chk (by kernel_rfl) ?_|refine stop ?_)
    all_goals refine Stop.mk ?_
    exact fin_id hE 0 rfl rfl rfl rfl ⟨rfl, rfl⟩
  have hl : b.length ≤ 3000 := by omega
  refine call_fn [] (cdecode_fn _ A c b hbb hb (by omega) (part_ok hbb (by omega))) rfl trivial (by decide) ?_
  intro sv H' G2 hp hg
  replace hb := Sl.to hg hb
  clear hg
  by_cases h0 : cErr b = 0
  case neg =>
    obtain ⟨rfl, rfl⟩ := dec_fail hp h0
    have hr := cErr_range hbb (by omega) h0
    generalize cErr b = e at *
    clear hp
    refine ⟨Nat.le_of_ble_eq_true rfl, ?_⟩
    unfold crt0
    repeat' ((fail_if_success with_reducible refine Stop.mk ?_);(conv=>whnf);first|with_reducible refine br_t ?_|with_reducible refine br_f ?_|with_reducible refine br_nn ?_|with_reducible refine br_ns ?_|with_reducible refine br_not ?_|((with_reducible refine br_d (fun h=>?_) fun h=>?_) <;> try (exfalso; omega))|((with_reducible refine br_e (fun h=>?_) fun h=>?_) <;> try (exfalso; omega))|((with_reducible refine br_n (fun h=>?_) fun h=>?_) <;> try (exfalso; omega))|with_reducible refine drw_fast (by kernel_rfl) ?_|with_reducible refine chk (by kernel_rfl) ?_|with_reducible refine stop ?_)
    all_goals refine Stop.mk ?_
    refine call_fn [] (same16_fn (zeroC_G _) (zeroC_G _)) rfl trivial (by decide) ?_
    rintro sv H' G8 ⟨rfl, rfl⟩ -
    rw [decide_eq_true (sameC_iff.2 rfl)]
    refine ⟨Nat.le_of_ble_eq_true rfl, ?_⟩
    repeat' ((fail_if_success with_reducible refine Stop.mk ?_);(conv=>whnf);first|with_reducible refine br_t ?_|with_reducible refine br_f ?_|with_reducible refine br_nn ?_|with_reducible refine br_ns ?_|with_reducible refine br_not ?_|((with_reducible refine br_d (fun h=>?_) fun h=>?_) <;> try (exfalso; omega))|((with_reducible refine br_e (fun h=>?_) fun h=>?_) <;> try (exfalso; omega))|((with_reducible refine br_n (fun h=>?_) fun h=>?_) <;> try (exfalso; omega))|with_reducible refine drw_fast (by kernel_rfl) ?_|with_reducible refine chk (by kernel_rfl) ?_|with_reducible refine stop ?_)
    all_goals refine Stop.mk ?_
    all_goals try (exfalso; first | exact h rfl | exact h (by decide) | omega)
    have h13 : (e != 13) = true := by
      rw [bne_iff_ne]; omega
    all_goals exact fin_id hE 0 rfl rfl rfl rfl ⟨congrArg (fun q => SV.v (.bool q)) h13, rfl⟩
  obtain ⟨A1, B1, C1, a1, b1, c1, rfl, rfl, hG⟩ := dec_post hp h0
  clear hp
  obtain ⟨hok, henc⟩ := dec_ok hbb (by omega) h0
  have hM := mid_of (x := dCrt b) (by rw [henc]; omega)
  generalize dCrt b = x at *
  refine ⟨Nat.le_of_ble_eq_true rfl, ?_⟩
  unfold crtS
  repeat' ((fail_if_success with_reducible refine Stop.mk ?_);(conv=>whnf);with_reducible first|refine br_t ?_|refine br_f ?_|refine br_nn ?_|refine br_ns ?_|refine br_not ?_|refine br_d (fun h=>?_) fun h=>?_|refine br_e (fun h=>?_) fun h=>?_|refine br_n (fun h=>?_) fun h=>?_|refine drw_fast (by kernel_rfl) ?_|refine chk (by kernel_rfl) ?_|refine stop ?_)
  all_goals refine Stop.mk ?_
  all_goals try (exfalso; first | exact h rfl | exact h (by decide) | omega)
  refine call_fn [] (rencodeM_fn hG hM) rfl trivial (by decide) ?_
  intro sv H' G3 hp hg
  obtain ⟨_, rfl, rfl⟩ := hp.resolve_right (fun h => h.1 hok)
  rw [henc]
  replace hG := hG.to hg
  replace hb := Sl.to hg hb
  clear hp hg
  refine ⟨Nat.le_of_ble_eq_true rfl, ?_⟩
  repeat' ((fail_if_success with_reducible refine Stop.mk ?_);(conv=>whnf);with_reducible first|refine br_t ?_|refine br_f ?_|refine br_nn ?_|refine br_ns ?_|refine br_not ?_|refine br_d (fun h=>?_) fun h=>?_|refine br_e (fun h=>?_) fun h=>?_|refine br_n (fun h=>?_) fun h=>?_|refine drw_fast (by kernel_rfl) ?_|refine chk (by kernel_rfl) ?_|refine stop ?_)
  all_goals refine Stop.mk ?_
  refine call_fn [] (validM_fn hG hM) rfl trivial (by decide) ?_
  rintro sv H' G4 ⟨e', rfl, hv, rfl, rfl⟩ -
  refine ⟨Nat.le_of_ble_eq_true rfl, ?_⟩
  obtain rfl : e' = 0 := hv.2 hok
  repeat' ((fail_if_success with_reducible refine Stop.mk ?_);(conv=>whnf);with_reducible first|refine br_t ?_|refine br_f ?_|refine br_nn ?_|refine br_ns ?_|refine br_not ?_|refine br_d (fun h=>?_) fun h=>?_|refine br_e (fun h=>?_) fun h=>?_|refine br_n (fun h=>?_) fun h=>?_|refine drw_fast (by kernel_rfl) ?_|refine chk (by kernel_rfl) ?_|refine stop ?_)
  all_goals refine Stop.mk ?_
  all_goals try (exfalso; first | exact h rfl | exact h (by decide) | omega)
  refine call_fz 1 rfl (byts_one _) (enters_of Tryz.func15 rfl rfl) fun Az cz Gz hgz hsz => ?_
  (conv => whnf)
  refine call_fn [] (same_fn _ Az A cz c b b (SlB.of _ hsz rfl rfl rfl) (Sl.to hgz hb)) rfl trivial (by decide) ?_
  rintro sv H' G8 ⟨rfl, rfl, rfl⟩ -
  rw [decide_eq_true rfl]
  refine ⟨Nat.le_of_ble_eq_true rfl, ?_⟩
  repeat' ((fail_if_success with_reducible refine Stop.mk ?_);(conv=>whnf);with_reducible first|refine br_t ?_|refine br_f ?_|refine br_nn ?_|refine br_ns ?_|refine br_not ?_|refine br_d (fun h=>?_) fun h=>?_|refine br_e (fun h=>?_) fun h=>?_|refine br_n (fun h=>?_) fun h=>?_|refine drw_fast (by kernel_rfl) ?_|refine chk (by kernel_rfl) ?_|refine stop ?_)
  all_goals refine Stop.mk ?_
  all_goals exact fin_id hE 0 rfl rfl rfl rfl ⟨rfl, rfl⟩
end Go.Proofs.YtchebkpcgglllaaGreat.Cu
