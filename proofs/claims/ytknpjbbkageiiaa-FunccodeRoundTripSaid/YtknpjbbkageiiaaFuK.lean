/- The law: what is written is read. -/
import Derived.Test.YtknpjbbkageiiaaFuJ
namespace Go.Proofs.Ytknpjbbkageiiaa.Cu
open Go Go.SX Go.Proofs.Ytknpjbbkageiiaa.VT
set_option maxRecDepth 100000
set_option linter.unusedVariables false
set_option linter.unusedSimpArgs false
theorem okFn_isb {f : Fn} (h : okFn f) : isB (wBs f.blocks) := by
  obtain ⟨h0, h2, h3, h4, h5, h6⟩ := (okFn_iff f).1 h
  unfold wBs
  refine flat_isb _ _ fun b hb => encB_isb (fun i hi => (okIns_ok ((h6 b hb).1 i hi) (by omega)).2.2.2.2) ?_
  obtain ⟨k, hk⟩ := List.getElem?_of_mem hb
  have h7 := totB_take f.blocks k b hk
  have h8 := totB_le f.blocks (k + 1)
  omega
theorem wFn_isb {f : Fn} (h : okFn f) : isB (wFn f) := isB_app2 (isB_app2 (isB_app2 (pU_isb _) (pU_isb _)) (putB_isb _ (by have := okFn_n h; omega))) (okFn_isb h)
theorem wMFn_isb {f : MFn} (h : okMFn f) : isB (wMFn f) := isB_app2 (isB_app2 (isB_app2 (isB_app2 (pU_isb _) (pU_isb _)) (pU_isb _)) (putB_isb _ (by have := okMFn_n h; omega))) (okMFn_isb h)
theorem wFn_le (f : Fn) : (wFn f).length ≤ 40 + (wBs f.blocks).length := by
  have a1 := pU_len f.args
  have a2 := pU_len f.regs
  have a4 := putB_len f.blocks.length
  unfold wFn
  simp only [List.length_append]
  omega
theorem wMFn_le (f : MFn) : (wMFn f).length ≤ 40 + (wMBs f.blocks).length := by
  have a1 := pU_len f.args
  have a2 := pU_len f.regs
  have a3 := pU_len f.slots
  have a4 := putB_len f.blocks.length
  unfold wMFn
  simp only [List.length_append]
  omega
set_option maxHeartbeats 8000000 in
theorem fround_fn (G : Gh) (A B C : Option Addr) (c d e : Nat) (f : Fn) (m : MFn) (rest : List Int) (hf : kBlk.S G A c f.blocks) (hm : kMBlk.S G B d m.blocks) (hbb : isB rest) (hsb : SlB G C e rest) :
    Ct Try.prog 11 [fnS A c f, mfnS B d m, .v (.slice C rest.length e)] [] G fun sv H' G' => sv = .v (.bool true) ∧ H' = [] := by
  have rF := (Cod.fn (sh := fun e => e = 1) rfl sh1).rt f
  have rM := (Cod.mfn (sh := fun e => e = 1) rfl sh1).rt m
  have lF := wFn_le f
  have lM := wMFn_le m
  have lF2 := wBs_le f.blocks
  have lM2 := wMBs_le m.blocks
  have hcapb := hsb.cap
  have htop := hsb.top
  refine fn_of follows [(6, (.cons 0 [] (.cons 2 [] (.cons 1 [0] (.cons 3 [0, 2] (.cons 4 [0, 2] (.cons 5 [] .nil)))))))] Try.func11 rfl rfl fun E hE => ?_
  unfold fnS mfnS
  repeat' ((fail_if_success with_reducible refine Stop.mk ?_); (conv => whnf); with_reducible first | refine br_t ?_ | refine br_f ?_ | refine br_nn ?_ | refine br_ns ?_ | refine br_not ?_ | refine br_d (fun h => ?_) (fun h => ?_) | refine br_e (fun h => ?_) (fun h => ?_) | refine br_n (fun h => ?_) (fun h => ?_) | refine drw (by kernel_rfl) ?_ | refine chk (by kernel_rfl) ?_ | refine stop ?_)
  all_goals refine Stop.mk ?_
  refine call_fn [] (awake18_fn _) rfl trivial (by decide) ?_
  rintro sv H' G' ⟨rfl, rfl⟩ hg
  refine ⟨Nat.le_of_ble_eq_true rfl, ?_⟩
  replace hsb := hsb.to hg
  replace hf := hf.to hg
  replace hm := hm.to hg
  clear hg
  repeat' ((fail_if_success with_reducible refine Stop.mk ?_); (conv => whnf); with_reducible first | refine br_t ?_ | refine br_f ?_ | refine br_nn ?_ | refine br_ns ?_ | refine br_not ?_ | refine br_d (fun h => ?_) (fun h => ?_) | refine br_e (fun h => ?_) (fun h => ?_) | refine br_n (fun h => ?_) (fun h => ?_) | refine drw (by kernel_rfl) ?_ | refine chk (by kernel_rfl) ?_ | refine stop ?_)
  all_goals refine Stop.mk ?_
  refine call_fn [] (few7_fn _ A c f hf) rfl trivial (by decide) ?_
  rintro sv H' G' ⟨⟨r, rfl, hfew⟩, rfl, rfl⟩ -
  refine ⟨Nat.le_of_ble_eq_true rfl, ?_⟩
  cases r
  ·
    repeat' ((fail_if_success with_reducible refine Stop.mk ?_); (conv => whnf); with_reducible first | refine br_t ?_ | refine br_f ?_ | refine br_nn ?_ | refine br_ns ?_ | refine br_not ?_ | refine br_d (fun h => ?_) (fun h => ?_) | refine br_e (fun h => ?_) (fun h => ?_) | refine br_n (fun h => ?_) (fun h => ?_) | refine drw (by kernel_rfl) ?_ | refine chk (by kernel_rfl) ?_ | refine stop ?_)
    all_goals refine Stop.mk ?_
    refine call_fn [] (awake18_fn _) rfl trivial (by decide) ?_
    rintro sv H' G' ⟨rfl, rfl⟩ -
    refine ⟨Nat.le_of_ble_eq_true rfl, ?_⟩
    repeat' ((fail_if_success with_reducible refine Stop.mk ?_); (conv => whnf); with_reducible first | refine br_t ?_ | refine br_f ?_ | refine br_nn ?_ | refine br_ns ?_ | refine br_not ?_ | refine br_d (fun h => ?_) (fun h => ?_) | refine br_e (fun h => ?_) (fun h => ?_) | refine br_n (fun h => ?_) (fun h => ?_) | refine drw (by kernel_rfl) ?_ | refine chk (by kernel_rfl) ?_ | refine stop ?_)
    all_goals refine Stop.mk ?_
    exact fin_id hE 0 rfl rfl rfl rfl ⟨rfl, rfl⟩
  obtain ⟨hf1, hf2, hf3⟩ := hfew rfl
  clear hfew
  repeat' ((fail_if_success with_reducible refine Stop.mk ?_); (conv => whnf); with_reducible first | refine br_t ?_ | refine br_f ?_ | refine br_nn ?_ | refine br_ns ?_ | refine br_not ?_ | refine br_d (fun h => ?_) (fun h => ?_) | refine br_e (fun h => ?_) (fun h => ?_) | refine br_n (fun h => ?_) (fun h => ?_) | refine drw (by kernel_rfl) ?_ | refine chk (by kernel_rfl) ?_ | refine stop ?_)
  all_goals refine Stop.mk ?_
  refine call_fn [] (few8_fn _ B d m hm) rfl trivial (by decide) ?_
  rintro sv H' G' ⟨⟨r, rfl, hfew⟩, rfl, rfl⟩ -
  refine ⟨Nat.le_of_ble_eq_true rfl, ?_⟩
  cases r
  ·
    repeat' ((fail_if_success with_reducible refine Stop.mk ?_); (conv => whnf); with_reducible first | refine br_t ?_ | refine br_f ?_ | refine br_nn ?_ | refine br_ns ?_ | refine br_not ?_ | refine br_d (fun h => ?_) (fun h => ?_) | refine br_e (fun h => ?_) (fun h => ?_) | refine br_n (fun h => ?_) (fun h => ?_) | refine drw (by kernel_rfl) ?_ | refine chk (by kernel_rfl) ?_ | refine stop ?_)
    all_goals refine Stop.mk ?_
    refine call_fn [] (awake18_fn _) rfl trivial (by decide) ?_
    rintro sv H' G' ⟨rfl, rfl⟩ -
    refine ⟨Nat.le_of_ble_eq_true rfl, ?_⟩
    repeat' ((fail_if_success with_reducible refine Stop.mk ?_); (conv => whnf); with_reducible first | refine br_t ?_ | refine br_f ?_ | refine br_nn ?_ | refine br_ns ?_ | refine br_not ?_ | refine br_d (fun h => ?_) (fun h => ?_) | refine br_e (fun h => ?_) (fun h => ?_) | refine br_n (fun h => ?_) (fun h => ?_) | refine drw (by kernel_rfl) ?_ | refine chk (by kernel_rfl) ?_ | refine stop ?_)
    all_goals refine Stop.mk ?_
    exact fin_id hE 0 rfl rfl rfl rfl ⟨rfl, rfl⟩
  obtain ⟨hm1, hm2, hm3, hm4⟩ := hfew rfl
  clear hfew
  repeat' ((fail_if_success with_reducible refine Stop.mk ?_); (conv => whnf); with_reducible first | refine br_t ?_ | refine br_f ?_ | refine br_nn ?_ | refine br_ns ?_ | refine br_not ?_ | refine br_d (fun h => ?_) (fun h => ?_) | refine br_e (fun h => ?_) (fun h => ?_) | refine br_n (fun h => ?_) (fun h => ?_) | refine drw (by kernel_rfl) ?_ | refine chk (by kernel_rfl) ?_ | refine stop ?_)
  all_goals refine Stop.mk ?_
  refine call_fn [] (check7_fn _ A c f hf (by omega) (by omega)) rfl trivial (by decide) ?_
  rintro sv H' G' ⟨e1, rfl, he1, rfl, rfl⟩ -
  refine ⟨Nat.le_of_ble_eq_true rfl, ?_⟩
  repeat' ((fail_if_success with_reducible refine Stop.mk ?_); (conv => whnf); with_reducible first | refine br_t ?_ | refine br_f ?_ | refine br_nn ?_ | refine br_ns ?_ | refine br_not ?_ | refine br_d (fun h => ?_) (fun h => ?_) | refine br_e (fun h => ?_) (fun h => ?_) | refine br_n (fun h => ?_) (fun h => ?_) | refine drw (by kernel_rfl) ?_ | refine chk (by kernel_rfl) ?_ | refine stop ?_)
  all_goals refine Stop.mk ?_
  all_goals try
    refine call_fn [] (awake18_fn _) rfl trivial (by decide) ?_
    rintro sv H' G' ⟨rfl, rfl⟩ -
    refine ⟨Nat.le_of_ble_eq_true rfl, ?_⟩
    repeat' ((fail_if_success with_reducible refine Stop.mk ?_); (conv => whnf); with_reducible first | refine br_t ?_ | refine br_f ?_ | refine br_nn ?_ | refine br_ns ?_ | refine br_not ?_ | refine br_d (fun h => ?_) (fun h => ?_) | refine br_e (fun h => ?_) (fun h => ?_) | refine br_n (fun h => ?_) (fun h => ?_) | refine drw (by kernel_rfl) ?_ | refine chk (by kernel_rfl) ?_ | refine stop ?_)
    all_goals refine Stop.mk ?_
    exact fin_id hE 0 rfl rfl rfl rfl ⟨rfl, rfl⟩
  have he01 : e1 = 0 := by omega
  have hoF := he1.1 he01
  clear he1
  refine call_fn [] (check8_fn _ B d m hm (by omega) (by omega)) rfl trivial (by decide) ?_
  rintro sv H' G' ⟨e2, rfl, he2, rfl, rfl⟩ -
  refine ⟨Nat.le_of_ble_eq_true rfl, ?_⟩
  repeat' ((fail_if_success with_reducible refine Stop.mk ?_); (conv => whnf); with_reducible first | refine br_t ?_ | refine br_f ?_ | refine br_nn ?_ | refine br_ns ?_ | refine br_not ?_ | refine br_d (fun h => ?_) (fun h => ?_) | refine br_e (fun h => ?_) (fun h => ?_) | refine br_n (fun h => ?_) (fun h => ?_) | refine drw (by kernel_rfl) ?_ | refine chk (by kernel_rfl) ?_ | refine stop ?_)
  all_goals refine Stop.mk ?_
  all_goals try
    refine call_fn [] (awake18_fn _) rfl trivial (by decide) ?_
    rintro sv H' G' ⟨rfl, rfl⟩ -
    refine ⟨Nat.le_of_ble_eq_true rfl, ?_⟩
    repeat' ((fail_if_success with_reducible refine Stop.mk ?_); (conv => whnf); with_reducible first | refine br_t ?_ | refine br_f ?_ | refine br_nn ?_ | refine br_ns ?_ | refine br_not ?_ | refine br_d (fun h => ?_) (fun h => ?_) | refine br_e (fun h => ?_) (fun h => ?_) | refine br_n (fun h => ?_) (fun h => ?_) | refine drw (by kernel_rfl) ?_ | refine chk (by kernel_rfl) ?_ | refine stop ?_)
    all_goals refine Stop.mk ?_
    exact fin_id hE 0 rfl rfl rfl rfl ⟨rfl, rfl⟩
  have he02 : e2 = 0 := by omega
  have hoM := he2.1 he02
  clear he2
  have heF := wFn_eq hoF
  have heM := wMFn_eq hoM
  have bF := wFn_isb hoF
  have bM := wMFn_isb hoM
  refine call_gh (gh_birthC 2 0 5 1 rfl rfl) (putFunc_fn _ A c f [] hf (by omega) (by decide) (by omega) (okFn_trm hoF)).enters ?_
  rintro g s' ⟨rfl, rfl⟩
  refine call_fn [2, 3] (putFunc_fn _ A c f [] hf (by omega) (by decide) (by omega) (okFn_trm hoF)) rfl ⟨rfl, rfl, trivial⟩ (by decide) ?_
  rintro sv H' G' ⟨rfl, rfl⟩ hg
  replace hsb := hsb.to hg
  replace hf := hf.to hg
  replace hm := hm.to hg
  clear hg
  rw [List.nil_append]
  refine ⟨Nat.le_of_ble_eq_true rfl, ?_⟩
  repeat' ((fail_if_success with_reducible refine Stop.mk ?_); (conv => whnf); with_reducible first | refine br_t ?_ | refine br_f ?_ | refine br_nn ?_ | refine br_ns ?_ | refine br_not ?_ | refine br_d (fun h => ?_) (fun h => ?_) | refine br_e (fun h => ?_) (fun h => ?_) | refine br_n (fun h => ?_) (fun h => ?_) | refine drw (by kernel_rfl) ?_ | refine chk (by kernel_rfl) ?_ | refine stop ?_)
  all_goals refine Stop.mk ?_
  refine call_fn [2, 3] (putMFunc_fn _ B d m (wFn f) hm (by omega) (by omega) (by omega) (okMFn_trm hoM)) rfl ⟨rfl, rfl, trivial⟩ (by decide) ?_
  rintro sv H' G' ⟨rfl, rfl⟩ hg
  replace hsb := hsb.to hg
  replace hf := hf.to hg
  replace hm := hm.to hg
  clear hg
  refine ⟨Nat.le_of_ble_eq_true rfl, ?_⟩
  repeat' ((fail_if_success with_reducible refine Stop.mk ?_); (conv => whnf); with_reducible first | refine br_t ?_ | refine br_f ?_ | refine br_nn ?_ | refine br_ns ?_ | refine br_not ?_ | refine br_d (fun h => ?_) (fun h => ?_) | refine br_e (fun h => ?_) (fun h => ?_) | refine br_n (fun h => ?_) (fun h => ?_) | refine drw (by kernel_rfl) ?_ | refine chk (by kernel_rfl) ?_ | refine stop ?_)
  all_goals refine Stop.mk ?_
  refine call_fn [] (rputFuncO_fn _ A c f hf (by omega) (by omega) (okFn_ops hoF)) rfl trivial (by decide) ?_
  rintro sv H' G' ⟨rfl, rfl⟩ hg
  refine ⟨Nat.le_of_ble_eq_true rfl, ?_⟩
  replace hsb := hsb.to hg
  replace hf := hf.to hg
  replace hm := hm.to hg
  clear hg
  repeat' ((fail_if_success with_reducible refine Stop.mk ?_); (conv => whnf); with_reducible first | refine br_t ?_ | refine br_f ?_ | refine br_nn ?_ | refine br_ns ?_ | refine br_not ?_ | refine br_d (fun h => ?_) (fun h => ?_) | refine br_e (fun h => ?_) (fun h => ?_) | refine br_n (fun h => ?_) (fun h => ?_) | refine drw (by kernel_rfl) ?_ | refine chk (by kernel_rfl) ?_ | refine stop ?_)
  all_goals refine Stop.mk ?_
  refine call_fn [] (rputMFunc_fn _ B d m hm (by omega) (by omega)) rfl trivial (by decide) ?_
  rintro sv H' G' ⟨⟨Ap, cp, rfl, hp⟩, rfl⟩ hg
  refine ⟨Nat.le_of_ble_eq_true rfl, ?_⟩
  replace hsb := hsb.to hg
  replace hf := hf.to hg
  replace hm := hm.to hg
  clear hg
  repeat' ((fail_if_success with_reducible refine Stop.mk ?_); (conv => whnf); with_reducible first | refine br_t ?_ | refine br_f ?_ | refine br_nn ?_ | refine br_ns ?_ | refine br_not ?_ | refine br_d (fun h => ?_) (fun h => ?_) | refine br_e (fun h => ?_) (fun h => ?_) | refine br_n (fun h => ?_) (fun h => ?_) | refine drw (by kernel_rfl) ?_ | refine chk (by kernel_rfl) ?_ | refine stop ?_)
  all_goals refine Stop.mk ?_
  refine ⟨_, hp, ⟨by show ((wFn f).length + (wMFn m).length) * 1 ≤ _; omega, ?_⟩⟩
  clear hp
  repeat' ((fail_if_success with_reducible refine Stop.mk ?_); (conv => whnf); with_reducible first | refine br_t ?_ | refine br_f ?_ | refine br_nn ?_ | refine br_ns ?_ | refine br_not ?_ | refine br_d (fun h => ?_) (fun h => ?_) | refine br_e (fun h => ?_) (fun h => ?_) | refine br_n (fun h => ?_) (fun h => ?_) | refine drw (by kernel_rfl) ?_ | refine chk (by kernel_rfl) ?_ | refine stop ?_)
  all_goals refine Stop.mk ?_
  have hones : ∀ v ∈ byts (wFn f) ++ byts (wMFn m), v.oneCell' = true := fun v hv => byts_one (wFn f ++ wMFn m) v (by rw [byts_app]; exact hv)
  refine call_fn [2, 3] (wout_fn _ (wFn f ++ wMFn m) (by simp only [List.length_append]; omega)) rfl ⟨rfl, rfl, trivial⟩ (by decide) ?_
  rintro sv H' G' ⟨rfl, rfl, rfl⟩ hg
  clear hg
  refine ⟨Nat.le_of_ble_eq_true rfl, ?_⟩
  repeat' ((fail_if_success with_reducible refine Stop.mk ?_); (conv => whnf); with_reducible first | refine br_t ?_ | refine br_f ?_ | refine br_nn ?_ | refine br_ns ?_ | refine br_not ?_ | refine br_d (fun h => ?_) (fun h => ?_) | refine br_e (fun h => ?_) (fun h => ?_) | refine br_n (fun h => ?_) (fun h => ?_) | refine drw (by kernel_rfl) ?_ | refine chk (by kernel_rfl) ?_ | refine stop ?_)
  all_goals refine Stop.mk ?_
  have hlW : (wFn f).length + (wMFn m).length = (wFn f ++ wMFn m).length := by simp only [List.length_append]
  have hbW : byts (wFn f) ++ byts (wMFn m) = byts (wFn f ++ wMFn m) := by rw [byts_app]
  rw [hlW, hbW]
  clear hones
  have hlen : (wFn f ++ wMFn m).length ≤ 200000 := by simp only [List.length_append]; omega
  have hbW2 := isB_app2 bF bM
  have hWr : wFn f ++ wMFn m ++ rest = encFn f ++ (encMFn m ++ rest) := by rw [heF, heM]; simp only [List.append_assoc]
  generalize wFn f ++ wMFn m = W at *
  refine call_fz 5 rfl (byts_one _) (enters_of Try.func30 rfl rfl) fun Ay cy Gy hgy hsy => ?_
  (conv => whnf)
  refine call_fz 4 rfl (byts_one _) (enters_of Try.func30 rfl rfl) fun Az cz Gz hgz hsz => ?_
  (conv => whnf)
  have hW : SlB _ Az cz W := SlB.of W hsz rfl rfl rfl
  have hY : SlB _ Ay cy W := SlB.of W (Sl.to hgz hsy) rfl rfl rfl
  replace hsb := (hsb.to hgy).to hgz
  replace hf := (hf.to hgy).to hgz
  replace hm := (hm.to hgy).to hgz
  clear hgy hgz hsy hsz
  refine call_fn [] (same_fn _ Ay Az cy cz W W hY hW) rfl trivial (by decide) ?_
  rintro sv H' G' ⟨rfl, rfl, rfl⟩ -
  refine ⟨Nat.le_of_ble_eq_true rfl, ?_⟩
  rw [decide_eq_true rfl]
  clear hY
  repeat' ((fail_if_success with_reducible refine Stop.mk ?_); (conv => whnf); with_reducible first | refine br_t ?_ | refine br_f ?_ | refine br_nn ?_ | refine br_ns ?_ | refine br_not ?_ | refine br_d (fun h => ?_) (fun h => ?_) | refine br_e (fun h => ?_) (fun h => ?_) | refine br_n (fun h => ?_) (fun h => ?_) | refine drw (by kernel_rfl) ?_ | refine chk (by kernel_rfl) ?_ | refine stop ?_)
  all_goals refine Stop.mk ?_
  all_goals try (exfalso; rename_i h; first | exact h rfl | exact h (by decide))
  refine call_fn [] (radd_fn _ Az C cz e W rest hW hsb (by omega)) rfl trivial (by decide) ?_
  rintro sv H' G' ⟨rfl, rfl, rfl⟩ -
  refine ⟨Nat.le_of_ble_eq_true rfl, ?_⟩
  repeat' ((fail_if_success with_reducible refine Stop.mk ?_); (conv => whnf); with_reducible first | refine br_t ?_ | refine br_f ?_ | refine br_nn ?_ | refine br_ns ?_ | refine br_not ?_ | refine br_d (fun h => ?_) (fun h => ?_) | refine br_e (fun h => ?_) (fun h => ?_) | refine br_n (fun h => ?_) (fun h => ?_) | refine drw (by kernel_rfl) ?_ | refine chk (by kernel_rfl) ?_ | refine stop ?_)
  all_goals refine Stop.mk ?_
  rw [hWr]
  have hbZ : isB (encFn f ++ (encMFn m ++ rest)) := by rw [← hWr]; exact isB_app2 hbW2 hbb
  have hlZ : (encFn f ++ (encMFn m ++ rest)).length ≤ 300000 := by rw [← hWr, List.length_append]; omega
  have eF := rF (encMFn m ++ rest) hoF
  have eM := rM rest hoM
  clear hWr hW rF rM
  refine call_fz 6 rfl (byts_one _) (enters_of Try.func13 rfl rfl) fun Ax cx Gx hgx hsx => ?_
  (conv => whnf)
  replace hsb := hsb.to hgx
  replace hf := hf.to hgx
  replace hm := hm.to hgx
  clear hgx
  have sF := sFnR_suf (encFn f ++ (encMFn m ++ rest), 0)
  have sM := sMFnR_suf (encMFn m ++ rest, 0)
  rw [eF] at sF
  rw [eM] at sM
  generalize encFn f ++ (encMFn m ++ rest) = Z at *
  refine call_fn [] (pnew_fn _ Ax Z cx hbZ (SlB.of Z hsx rfl rfl rfl) (by omega)) rfl trivial (by decide) ?_
  rintro sv H' G' ⟨A1, c1, rfl, rfl, hC⟩ hg
  refine ⟨Nat.le_of_ble_eq_true rfl, ?_⟩
  replace hsb := hsb.to hg
  replace hf := hf.to hg
  replace hm := hm.to hg
  clear hg
  repeat' ((fail_if_success with_reducible refine Stop.mk ?_); (conv => whnf); with_reducible first | refine br_t ?_ | refine br_f ?_ | refine br_nn ?_ | refine br_ns ?_ | refine br_not ?_ | refine br_d (fun h => ?_) (fun h => ?_) | refine br_e (fun h => ?_) (fun h => ?_) | refine br_n (fun h => ?_) (fun h => ?_) | refine drw (by kernel_rfl) ?_ | refine chk (by kernel_rfl) ?_ | refine stop ?_)
  all_goals refine Stop.mk ?_
  clear hsx
  refine call_fn [7] (func_fn hC) rfl ⟨rfl, trivial⟩ (by decide) ?_
  rw [eF]
  rintro sv H' G' ⟨A3, c3, rfl, hf', rfl⟩ hg
  replace hf := hf.to hg
  replace hm := hm.to hg
  replace hC := (hC.to hg).next (q := (encMFn m ++ rest, 0)) sF
  clear hg
  refine ⟨Nat.le_of_ble_eq_true rfl, ?_⟩
  repeat' ((fail_if_success with_reducible refine Stop.mk ?_); (conv => whnf); with_reducible first | refine br_t ?_ | refine br_f ?_ | refine br_nn ?_ | refine br_ns ?_ | refine br_not ?_ | refine br_d (fun h => ?_) (fun h => ?_) | refine br_e (fun h => ?_) (fun h => ?_) | refine br_n (fun h => ?_) (fun h => ?_) | refine drw (by kernel_rfl) ?_ | refine chk (by kernel_rfl) ?_ | refine stop ?_)
  all_goals refine Stop.mk ?_
  refine call_fn [7] (mfunc_fn hC) rfl ⟨rfl, trivial⟩ (by decide) ?_
  rw [eM]
  rintro sv H' G' ⟨A4, c4, rfl, hm', rfl⟩ hg
  replace hf := hf.to hg
  replace hf' := hf'.to hg
  replace hm := hm.to hg
  replace hC := (hC.to hg).next (q := (rest, 0)) sM
  clear hg
  refine ⟨Nat.le_of_ble_eq_true rfl, ?_⟩
  repeat' ((fail_if_success with_reducible refine Stop.mk ?_); (conv => whnf); with_reducible first | refine br_t ?_ | refine br_f ?_ | refine br_nn ?_ | refine br_ns ?_ | refine br_not ?_ | refine br_d (fun h => ?_) (fun h => ?_) | refine br_e (fun h => ?_) (fun h => ?_) | refine br_n (fun h => ?_) (fun h => ?_) | refine drw (by kernel_rfl) ?_ | refine chk (by kernel_rfl) ?_ | refine stop ?_)
  all_goals refine Stop.mk ?_
  refine call_fn [] (same7_fn _ A3 A c3 c f f hf' hf) rfl trivial (by decide) ?_
  rintro sv H' G' ⟨rfl, rfl, rfl⟩ -
  rw [decide_eq_true rfl]
  refine ⟨Nat.le_of_ble_eq_true rfl, ?_⟩
  repeat' ((fail_if_success with_reducible refine Stop.mk ?_); (conv => whnf); with_reducible first | refine br_t ?_ | refine br_f ?_ | refine br_nn ?_ | refine br_ns ?_ | refine br_not ?_ | refine br_d (fun h => ?_) (fun h => ?_) | refine br_e (fun h => ?_) (fun h => ?_) | refine br_n (fun h => ?_) (fun h => ?_) | refine drw (by kernel_rfl) ?_ | refine chk (by kernel_rfl) ?_ | refine stop ?_)
  all_goals refine Stop.mk ?_
  all_goals try (exfalso; rename_i h; first | exact h rfl | exact h (by decide))
  refine call_fn [] (same8_fn _ A4 B c4 d m m hm' hm) rfl trivial (by decide) ?_
  rintro sv H' G' ⟨rfl, rfl, rfl⟩ -
  rw [decide_eq_true rfl]
  refine ⟨Nat.le_of_ble_eq_true rfl, ?_⟩
  repeat' ((fail_if_success with_reducible refine Stop.mk ?_); (conv => whnf); with_reducible first | refine br_t ?_ | refine br_f ?_ | refine br_nn ?_ | refine br_ns ?_ | refine br_not ?_ | refine br_d (fun h => ?_) (fun h => ?_) | refine br_e (fun h => ?_) (fun h => ?_) | refine br_n (fun h => ?_) (fun h => ?_) | refine drw (by kernel_rfl) ?_ | refine chk (by kernel_rfl) ?_ | refine stop ?_)
  all_goals refine Stop.mk ?_
  all_goals try (exfalso; rename_i h; first | exact h rfl | exact h (by decide))
  refine call_fn [7] (perr_fn (p := (rest, 0))) rfl ⟨rfl, trivial⟩ (by decide) ?_
  rintro sv H' G' ⟨rfl, rfl, rfl⟩ -
  refine ⟨Nat.le_of_ble_eq_true rfl, ?_⟩
  dsimp only
  repeat' ((fail_if_success with_reducible refine Stop.mk ?_); (conv => whnf); with_reducible first | refine br_t ?_ | refine br_f ?_ | refine br_nn ?_ | refine br_ns ?_ | refine br_not ?_ | refine br_d (fun h => ?_) (fun h => ?_) | refine br_e (fun h => ?_) (fun h => ?_) | refine br_n (fun h => ?_) (fun h => ?_) | refine drw (by kernel_rfl) ?_ | refine chk (by kernel_rfl) ?_ | refine stop ?_)
  all_goals refine Stop.mk ?_
  all_goals try (exfalso; rename_i h; first | exact h rfl | exact h (by decide))
  refine call_fn [7] (pleft_fn hC) rfl ⟨rfl, trivial⟩ (by decide) ?_
  rintro sv H' G' ⟨rfl, rfl, rfl⟩ -
  refine ⟨Nat.le_of_ble_eq_true rfl, ?_⟩
  rw [show sLeft (rest, 0) = (rest.length : Int) from if_pos rfl]
  repeat' ((fail_if_success with_reducible refine Stop.mk ?_); (conv => whnf); with_reducible first | refine br_t ?_ | refine br_f ?_ | refine br_nn ?_ | refine br_ns ?_ | refine br_not ?_ | refine br_d (fun h => ?_) (fun h => ?_) | refine br_e (fun h => ?_) (fun h => ?_) | refine br_n (fun h => ?_) (fun h => ?_) | refine drw (by kernel_rfl) ?_ | refine chk (by kernel_rfl) ?_ | refine stop ?_)
  all_goals refine Stop.mk ?_
  refine fin_id hE 0 rfl rfl rfl rfl ⟨?_, rfl⟩
  simp
end Go.Proofs.Ytknpjbbkageiiaa.Cu
