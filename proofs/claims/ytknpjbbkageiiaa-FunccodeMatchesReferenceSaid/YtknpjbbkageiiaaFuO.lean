/- The law: what is read is what the reference reads. -/
import Derived.Test.YtknpjbbkageiiaaFuJ
import Derived.Test.YtknpjbbkageiiaaFuN
import Derived.Test.YtknpjbbkageiiaaSXP
namespace Go.Proofs.Ytknpjbbkageiiaa.Cu
open Go Go.SX Go.Proofs.Ytknpjbbkageiiaa.VT
set_option maxRecDepth 100000
set_option linter.unusedVariables false
set_option linter.unusedSimpArgs false
theorem func_fnE {G : Gh} {A : Option Addr} {bs : List Int} {c : Nat} {p q : Ps} {f : Fn} (hC : CurOK G A c bs p) (h : sFnR p = (f, q)) :
    Ct Try.prog 43 [.p 0 0] [curL A bs c p] G fun sv H' G' => ∃ B d, sv = fnS B d f ∧ kBlk.S G' B d f.blocks ∧ H' = [curL A bs c q] := by
  have h1 := func_fn hC
  rw [h] at h1
  exact h1
theorem mfunc_fnE {G : Gh} {A : Option Addr} {bs : List Int} {c : Nat} {p q : Ps} {f : MFn} (hC : CurOK G A c bs p) (h : sMFnR p = (f, q)) :
    Ct Try.prog 44 [.p 0 0] [curL A bs c p] G fun sv H' G' => ∃ B d, sv = mfnS B d f ∧ kMBlk.S G' B d f.blocks ∧ H' = [curL A bs c q] := by
  have h1 := mfunc_fn hC
  rw [h] at h1
  exact h1
theorem rfunc_fnE {G : Gh} {A : Option Addr} {c : Nat} {p r q : Ps} {f : Fn} (hI : RIn G A c p r) (hb : isB p.1) (h : sFnR p = (f, q)) :
    Ct Try.prog 45 [inS A c r] [] G fun sv H' G' => ∃ B d A c i, sv = .tup [fnS B d f, inS A c i] ∧ kBlk.S G' B d f.blocks ∧ RIn G' A c q i ∧ H' = [] := by
  have h1 := rfunc_fn hI hb
  rw [h] at h1
  exact h1
theorem rmfunc_fnE {G : Gh} {A : Option Addr} {c : Nat} {p r q : Ps} {f : MFn} (hI : RIn G A c p r) (hb : isB p.1) (h : sMFnR p = (f, q)) :
    Ct Try.prog 46 [inS A c r] [] G fun sv H' G' => ∃ B d A c i, sv = .tup [mfnS B d f, inS A c i] ∧ kMBlk.S G' B d f.blocks ∧ RIn G' A c q i ∧ H' = [] := by
  have h1 := rmfunc_fn hI hb
  rw [h] at h1
  exact h1
set_option maxHeartbeats 8000000 in
theorem fmatch_fn (G : Gh) (A : Option Addr) (c : Nat) (b : List Int) (hbb : isB b) (hsb : SlB G A c b) :
    Ct Try.prog 8 [.v (.slice A b.length c)] [] G fun sv H' G' => sv = .v (.bool true) ∧ H' = [] := by
  have hcapb := hsb.cap
  have htop := hsb.top
  have sF := sFnR_suf (b, 0)
  have sM := sMFnR_suf (b, 0)
  obtain ⟨f, pf, hsf⟩ : ∃ f pf, sFnR (b, 0) = (f, pf) := ⟨_, _, rfl⟩
  obtain ⟨m, pm, hsm⟩ : ∃ m pm, sMFnR (b, 0) = (m, pm) := ⟨_, _, rfl⟩
  rw [hsf] at sF
  rw [hsm] at sM
  refine fn_of follows [(12, (.cons 0 [] (.cons 1 [] (.cons 2 [0, 1] (.cons 3 [] (.cons 4 [] (.cons 6 [] (.cons 7 [] (.cons 5 [0, 1] (.cons 8 [] (.cons 9 [] (.cons 10 [] (.cons 11 [] (.cons 12 [] (.cons 13 [] (.cons 14 [] (.cons 15 [] (.cons 17 [] (.cons 18 [] (.cons 19 [] (.cons 16 [0, 1, 7, 12] (.cons 20 [] (.cons 21 [] (.cons 22 [] (.cons 23 [] (.cons 24 [] (.cons 25 [] (.cons 26 [0, 1, 7, 12, 18, 24, 25] (.cons 27 [] (.cons 28 [] (.cons 29 [] (.cons 31 [] (.cons 32 [] (.cons 30 [0, 1, 7, 12, 18, 24, 25] (.cons 33 [] (.cons 34 [] (.cons 35 [] (.cons 36 [] (.cons 37 [] (.cons 38 [] (.cons 39 [] (.cons 40 [] (.cons 42 [] (.cons 43 [] (.cons 44 [] (.cons 41 [0, 1, 7, 12, 18, 24, 25, 32, 37] (.cons 45 [] (.cons 46 [] (.cons 47 [] (.cons 48 [] .nil))))))))))))))))))))))))))))))))))))))))))))))))))] Try.func8 rfl rfl fun E hE => ?_
  repeat' ((fail_if_success with_reducible refine Stop.mk ?_); (conv => whnf); with_reducible first | refine br_t ?_ | refine br_f ?_ | refine br_nn ?_ | refine br_ns ?_ | refine br_not ?_ | refine br_d (fun h => ?_) (fun h => ?_) | refine br_e (fun h => ?_) (fun h => ?_) | refine br_n (fun h => ?_) (fun h => ?_) | refine drw_fast (by kernel_rfl) ?_ | refine chk (by kernel_rfl) ?_ | refine stop ?_)
  all_goals refine Stop.mk ?_
  refine call_fn [] (awake18_fn _) rfl trivial (by decide) ?_
  rintro sv H' G' ⟨rfl, rfl⟩ hg
  refine ⟨Nat.le_of_ble_eq_true rfl, ?_⟩
  replace hsb := hsb.to hg
  clear hg
  repeat' ((fail_if_success with_reducible refine Stop.mk ?_); (conv => whnf); with_reducible first | refine br_t ?_ | refine br_f ?_ | refine br_nn ?_ | refine br_ns ?_ | refine br_not ?_ | refine br_d (fun h => ?_) (fun h => ?_) | refine br_e (fun h => ?_) (fun h => ?_) | refine br_n (fun h => ?_) (fun h => ?_) | refine drw_fast (by kernel_rfl) ?_ | refine chk (by kernel_rfl) ?_ | refine stop ?_)
  all_goals refine Stop.mk ?_
  all_goals try
    refine call_fn [] (awake18_fn _) rfl trivial (by decide) ?_
    rintro sv H' G' ⟨rfl, rfl⟩ -
    refine ⟨Nat.le_of_ble_eq_true rfl, ?_⟩
    repeat' ((fail_if_success with_reducible refine Stop.mk ?_); (conv => whnf); with_reducible first | refine br_t ?_ | refine br_f ?_ | refine br_nn ?_ | refine br_ns ?_ | refine br_not ?_ | refine br_d (fun h => ?_) (fun h => ?_) | refine br_e (fun h => ?_) (fun h => ?_) | refine br_n (fun h => ?_) (fun h => ?_) | refine drw_fast (by kernel_rfl) ?_ | refine chk (by kernel_rfl) ?_ | refine stop ?_)
    all_goals refine Stop.mk ?_
    exact fin_all ⟨rfl, rfl⟩
  refine call_fn [] (pnew_fn _ A b c hbb hsb (by omega)) rfl trivial (by decide) ?_
  rintro sv H' G' ⟨A1, c1, rfl, rfl, hC1⟩ hg
  refine ⟨Nat.le_of_ble_eq_true rfl, ?_⟩
  replace hsb := hsb.to hg
  clear hg
  repeat' ((fail_if_success with_reducible refine Stop.mk ?_); (conv => whnf); with_reducible first | refine br_t ?_ | refine br_f ?_ | refine br_nn ?_ | refine br_ns ?_ | refine br_not ?_ | refine br_d (fun h => ?_) (fun h => ?_) | refine br_e (fun h => ?_) (fun h => ?_) | refine br_n (fun h => ?_) (fun h => ?_) | refine drw_fast (by kernel_rfl) ?_ | refine chk (by kernel_rfl) ?_ | refine stop ?_)
  all_goals refine Stop.mk ?_
  refine call_fn [] (pnew_fn _ A b c hbb hsb (by omega)) rfl trivial (by decide) ?_
  rintro sv H' G' ⟨A2, c2, rfl, rfl, hC2⟩ hg
  refine ⟨Nat.le_of_ble_eq_true rfl, ?_⟩
  replace hsb := hsb.to hg
  replace hC1 := hC1.to hg
  clear hg
  repeat' ((fail_if_success with_reducible refine Stop.mk ?_); (conv => whnf); with_reducible first | refine br_t ?_ | refine br_f ?_ | refine br_nn ?_ | refine br_ns ?_ | refine br_not ?_ | refine br_d (fun h => ?_) (fun h => ?_) | refine br_e (fun h => ?_) (fun h => ?_) | refine br_n (fun h => ?_) (fun h => ?_) | refine drw_fast (by kernel_rfl) ?_ | refine chk (by kernel_rfl) ?_ | refine stop ?_)
  all_goals refine Stop.mk ?_
  refine ⟨_, hsb, ⟨by show (0 + b.length) * 1 ≤ _; omega, ?_⟩⟩
  repeat' ((fail_if_success with_reducible refine Stop.mk ?_); (conv => whnf); with_reducible first | refine br_t ?_ | refine br_f ?_ | refine br_nn ?_ | refine br_ns ?_ | refine br_not ?_ | refine br_d (fun h => ?_) (fun h => ?_) | refine br_e (fun h => ?_) (fun h => ?_) | refine br_n (fun h => ?_) (fun h => ?_) | refine drw_fast (by kernel_rfl) ?_ | refine chk (by kernel_rfl) ?_ | refine stop ?_)
  all_goals refine Stop.mk ?_
  refine call_fn [0] (func_fnE hC1 hsf) rfl ⟨rfl, trivial⟩ (by decide) ?_
  rintro sv H' G' ⟨A3, c3, rfl, hf, rfl⟩ hg
  replace hsb := hsb.to hg
  replace hC1 := (hC1.to hg).next (q := pf) sF
  replace hC2 := hC2.to hg
  clear hg
  refine ⟨Nat.le_of_ble_eq_true rfl, ?_⟩
  repeat' ((fail_if_success with_reducible refine Stop.mk ?_); (conv => whnf); with_reducible first | refine br_t ?_ | refine br_f ?_ | refine br_nn ?_ | refine br_ns ?_ | refine br_not ?_ | refine br_d (fun h => ?_) (fun h => ?_) | refine br_e (fun h => ?_) (fun h => ?_) | refine br_n (fun h => ?_) (fun h => ?_) | refine drw_fast (by kernel_rfl) ?_ | refine chk (by kernel_rfl) ?_ | refine stop ?_)
  all_goals refine Stop.mk ?_
  refine call_fn [1] (mfunc_fnE hC2 hsm) rfl ⟨rfl, trivial⟩ (by decide) ?_
  rintro sv H' G' ⟨A4, c4, rfl, hm, rfl⟩ hg
  replace hsb := hsb.to hg
  replace hf := hf.to hg
  replace hC1 := hC1.to hg
  replace hC2 := (hC2.to hg).next (q := pm) sM
  clear hg
  refine ⟨Nat.le_of_ble_eq_true rfl, ?_⟩
  repeat' ((fail_if_success with_reducible refine Stop.mk ?_); (conv => whnf); with_reducible first | refine br_t ?_ | refine br_f ?_ | refine br_nn ?_ | refine br_ns ?_ | refine br_not ?_ | refine br_d (fun h => ?_) (fun h => ?_) | refine br_e (fun h => ?_) (fun h => ?_) | refine br_n (fun h => ?_) (fun h => ?_) | refine drw_fast (by kernel_rfl) ?_ | refine chk (by kernel_rfl) ?_ | refine stop ?_)
  all_goals refine Stop.mk ?_
  rw [Nat.zero_add b.length, List.nil_append]
  refine call_fz 2 rfl (byts_one _) (enters_of Try.func45 rfl rfl) fun Ax cx Gx hgx hsx => ?_
  (conv => whnf)
  have hI : RIn Gx Ax cx (b, 0) (b, 0) := ⟨SlB.of b hsx rfl rfl rfl, hbb, by dsimp only; omega, rfl, fun _ => rfl⟩
  replace hf := hf.to hgx
  replace hm := hm.to hgx
  replace hC1 := hC1.to hgx
  replace hC2 := hC2.to hgx
  clear hgx hsx hsb
  refine call_fn [] (rfunc_fnE hI hbb hsf) rfl trivial (by decide) ?_
  rintro sv H' G' ⟨A5, c5, A6, c6, i6, rfl, hf2, hR6, rfl⟩ hg
  replace hI := hI.to hg
  replace hf := hf.to hg
  replace hm := hm.to hg
  replace hC1 := hC1.to hg
  replace hC2 := hC2.to hg
  clear hg
  refine ⟨Nat.le_of_ble_eq_true rfl, ?_⟩
  repeat' ((fail_if_success with_reducible refine Stop.mk ?_); (conv => whnf); with_reducible first | refine br_t ?_ | refine br_f ?_ | refine br_nn ?_ | refine br_ns ?_ | refine br_not ?_ | refine br_d (fun h => ?_) (fun h => ?_) | refine br_e (fun h => ?_) (fun h => ?_) | refine br_n (fun h => ?_) (fun h => ?_) | refine drw_fast (by kernel_rfl) ?_ | refine chk (by kernel_rfl) ?_ | refine stop ?_)
  all_goals refine Stop.mk ?_
  refine call_fn [] (rmfunc_fnE hI hbb hsm) rfl trivial (by decide) ?_
  rintro sv H' G' ⟨A7, c7, A8, c8, i8, rfl, hm2, hR8, rfl⟩ hg
  replace hf := hf.to hg
  replace hf2 := hf2.to hg
  replace hm := hm.to hg
  replace hC1 := hC1.to hg
  replace hC2 := hC2.to hg
  replace hR6 := hR6.to hg
  clear hg hI
  refine ⟨Nat.le_of_ble_eq_true rfl, ?_⟩
  have he6 := hR6.he
  have hr6 := hR6.hr
  have he8 := hR8.he
  have hr8 := hR8.hr
  repeat' ((fail_if_success with_reducible refine Stop.mk ?_); (conv => whnf); with_reducible first | refine br_t ?_ | refine br_f ?_ | refine br_nn ?_ | refine br_ns ?_ | refine br_not ?_ | refine br_d (fun h => ?_) (fun h => ?_) | refine br_e (fun h => ?_) (fun h => ?_) | refine br_n (fun h => ?_) (fun h => ?_) | refine drw_fast (by kernel_rfl) ?_ | refine chk (by kernel_rfl) ?_ | refine stop ?_)
  all_goals refine Stop.mk ?_
  refine call_fn [] (same7_fn _ A3 A5 c3 c5 f f hf hf2) rfl trivial (by decide) ?_
  rintro sv H' G' ⟨rfl, rfl, rfl⟩ -
  rw [decide_eq_true rfl]
  refine ⟨Nat.le_of_ble_eq_true rfl, ?_⟩
  repeat' ((fail_if_success with_reducible refine Stop.mk ?_); (conv => whnf); with_reducible first | refine br_t ?_ | refine br_f ?_ | refine br_nn ?_ | refine br_ns ?_ | refine br_not ?_ | refine br_d (fun h => ?_) (fun h => ?_) | refine br_e (fun h => ?_) (fun h => ?_) | refine br_n (fun h => ?_) (fun h => ?_) | refine drw_fast (by kernel_rfl) ?_ | refine chk (by kernel_rfl) ?_ | refine stop ?_)
  all_goals refine Stop.mk ?_
  all_goals try (exfalso; rename_i h; first | exact h rfl | exact h (by decide))
  refine call_fn [0] (perr_fn (p := pf)) rfl ⟨rfl, trivial⟩ (by decide) ?_
  rintro sv H' G' ⟨rfl, rfl, rfl⟩ -
  refine ⟨Nat.le_of_ble_eq_true rfl, ?_⟩
  repeat' ((fail_if_success with_reducible refine Stop.mk ?_); (conv => whnf); first | with_reducible refine br_t ?_ | with_reducible refine br_f ?_ | with_reducible refine br_nn ?_ | with_reducible refine br_ns ?_ | with_reducible refine br_not ?_ | ((with_reducible refine br_d (fun h => ?_) (fun h => ?_)) <;> try (exfalso; omega)) | ((with_reducible refine br_e (fun h => ?_) (fun h => ?_)) <;> try (exfalso; omega)) | ((with_reducible refine br_n (fun h => ?_) (fun h => ?_)) <;> try (exfalso; omega)) | with_reducible refine drw_fast (by kernel_rfl) ?_ | with_reducible refine chk (by kernel_rfl) ?_ | with_reducible refine stop ?_)
  all_goals refine Stop.mk ?_
  all_goals try
    have hp0 : pf.2 = 0 := by omega
    refine call_fn [0] (pleft_fn hC1) rfl ⟨rfl, trivial⟩ (by decide) ?_
    rintro sv H' G' ⟨rfl, rfl, rfl⟩ -
    refine ⟨Nat.le_of_ble_eq_true rfl, ?_⟩
    have hlen : sLeft pf = (i6.1.length : Int) := by unfold sLeft; rw [if_pos hp0, hr6 hp0]
    rw [hlen]
    repeat' ((fail_if_success with_reducible refine Stop.mk ?_); (conv => whnf); with_reducible first | refine br_t ?_ | refine br_f ?_ | refine br_nn ?_ | refine br_ns ?_ | refine br_not ?_ | refine br_d (fun h => ?_) (fun h => ?_) | refine br_e (fun h => ?_) (fun h => ?_) | refine br_n (fun h => ?_) (fun h => ?_) | refine drw_fast (by kernel_rfl) ?_ | refine chk (by kernel_rfl) ?_ | refine stop ?_)
    all_goals refine Stop.mk ?_
    all_goals try (exfalso; rename_i h; first | exact h rfl | exact h (by decide))
  all_goals
    refine call_fn [] (same8_fn _ A4 A7 c4 c7 m m hm hm2) rfl trivial (by decide) ?_
    rintro sv H' G' ⟨rfl, rfl, rfl⟩ -
    rw [decide_eq_true rfl]
    refine ⟨Nat.le_of_ble_eq_true rfl, ?_⟩
    repeat' ((fail_if_success with_reducible refine Stop.mk ?_); (conv => whnf); with_reducible first | refine br_t ?_ | refine br_f ?_ | refine br_nn ?_ | refine br_ns ?_ | refine br_not ?_ | refine br_d (fun h => ?_) (fun h => ?_) | refine br_e (fun h => ?_) (fun h => ?_) | refine br_n (fun h => ?_) (fun h => ?_) | refine drw_fast (by kernel_rfl) ?_ | refine chk (by kernel_rfl) ?_ | refine stop ?_)
    all_goals refine Stop.mk ?_
    all_goals try (exfalso; rename_i h; first | exact h rfl | exact h (by decide))
    refine call_fn [1] (perr_fn (p := pm)) rfl ⟨rfl, trivial⟩ (by decide) ?_
    rintro sv H' G' ⟨rfl, rfl, rfl⟩ -
    refine ⟨Nat.le_of_ble_eq_true rfl, ?_⟩
    repeat' ((fail_if_success with_reducible refine Stop.mk ?_); (conv => whnf); first | with_reducible refine br_t ?_ | with_reducible refine br_f ?_ | with_reducible refine br_nn ?_ | with_reducible refine br_ns ?_ | with_reducible refine br_not ?_ | ((with_reducible refine br_d (fun h => ?_) (fun h => ?_)) <;> try (exfalso; omega)) | ((with_reducible refine br_e (fun h => ?_) (fun h => ?_)) <;> try (exfalso; omega)) | ((with_reducible refine br_n (fun h => ?_) (fun h => ?_)) <;> try (exfalso; omega)) | with_reducible refine drw_fast (by kernel_rfl) ?_ | with_reducible refine chk (by kernel_rfl) ?_ | with_reducible refine stop ?_)
    all_goals refine Stop.mk ?_
    all_goals try
      have hp0 : pm.2 = 0 := by omega
      refine call_fn [1] (pleft_fn hC2) rfl ⟨rfl, trivial⟩ (by decide) ?_
      rintro sv H' G' ⟨rfl, rfl, rfl⟩ -
      refine ⟨Nat.le_of_ble_eq_true rfl, ?_⟩
      have hlen : sLeft pm = (i8.1.length : Int) := by unfold sLeft; rw [if_pos hp0, hr8 hp0]
      rw [hlen]
      repeat' ((fail_if_success with_reducible refine Stop.mk ?_); (conv => whnf); with_reducible first | refine br_t ?_ | refine br_f ?_ | refine br_nn ?_ | refine br_ns ?_ | refine br_not ?_ | refine br_d (fun h => ?_) (fun h => ?_) | refine br_e (fun h => ?_) (fun h => ?_) | refine br_n (fun h => ?_) (fun h => ?_) | refine drw_fast (by kernel_rfl) ?_ | refine chk (by kernel_rfl) ?_ | refine stop ?_)
      all_goals refine Stop.mk ?_
    all_goals
      refine fin_id hE 0 rfl rfl rfl rfl ⟨?_, rfl⟩
      try simp
end Go.Proofs.Ytknpjbbkageiiaa.Cu
