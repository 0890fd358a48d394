/- The law: what is written is read. -/
import Derived.Test.YtknpjbbkageiiaaInG
namespace Go.Proofs.Ytknpjbbkageiiaa.Cu
open Go Go.SX Go.Proofs.Ytknpjbbkageiiaa.VT
set_option maxRecDepth 100000
set_option linter.unusedVariables false
set_option linter.unusedSimpArgs false

set_option maxHeartbeats 8000000 in
theorem iround_fn (G : Gh) (A : Option Addr) (c : Nat) (i : Ins) (m : Mac) (t : Trm) (regs slots blocks : Int) (rest : List Int) (hi : i.ok) (hm : m.ok) (hbb : isB rest) (hsb : SlB G A c rest) (h1 : 0 ≤ regs ∧ regs < 65536) (h2 : 0 ≤ slots ∧ slots < 65536) (h3 : 0 ≤ blocks ∧ blocks < 65536) :
    Ct Try.prog 4 [i.sv, m.sv, t.sv, .v (.int .u16 regs), .v (.int .u16 slots), .v (.int .u16 blocks), .v (.slice A rest.length c)] [] G fun sv H' G' => sv = .v (.bool true) ∧ H' = [] := by
  have hw1 : IntKind.i64.wrap regs = regs := i64_in (by omega) (by omega)
  have hw2 : IntKind.i64.wrap slots = slots := i64_in (by omega) (by omega)
  have hw3 : IntKind.i64.wrap blocks = blocks := i64_in (by omega) (by omega)
  have rI := (Cod.ins (sh := fun e => e = 1) rfl sh1 regs (by omega)).rt i
  have rM := (Cod.mac (sh := fun e => e = 1) rfl sh1 regs slots (by omega)).rt m
  have rT := (Cod.trm (sh := fun e => e = 1) rfl sh1 regs blocks (by omega) (by omega)).rt t
  have lI := putInsB_len i
  have lM := putMacB_len m
  have lT := putTrmB_len t
  have bI := putInsB_isb i hi.2.2.2.2
  have bM := putMacB_isb m hm.2.2.2.2.1
  have bT := putTrmB_isb t
  have hcapb := hsb.cap
  have htop := hsb.top
  refine fn_of follows [(10, (.cons 0 [] (.cons 2 [] (.cons 5 [] (.cons 1 [0] (.cons 3 [0, 2] (.cons 4 [0, 2] (.cons 6 [0, 2, 5] (.cons 7 [0, 2, 5] (.cons 8 [] .nil)))))))))), (16, (.cons 0 [] (.cons 1 [] (.cons 3 [] (.cons 2 [] (.cons 4 [] (.cons 5 [] (.cons 6 [] (.cons 7 [] (.cons 8 [] (.cons 9 [] (.cons 11 [] (.cons 10 [3] (.cons 12 [] (.cons 13 [] (.cons 14 [] (.cons 15 [] (.cons 16 [] (.cons 17 [] (.cons 18 [] (.cons 20 [] (.cons 19 [3, 11] (.cons 21 [] (.cons 22 [] (.cons 23 [] (.cons 24 [] (.cons 25 [3, 11, 20] (.cons 26 [] (.cons 27 [] (.cons 28 [] (.cons 29 [] (.cons 31 [] (.cons 32 [] (.cons 30 [3, 11, 20] (.cons 33 [] (.cons 34 [] (.cons 35 [] .nil)))))))))))))))))))))))))))))))))))))] Try.func4 rfl rfl fun E hE => ?_
  repeat' ((fail_if_success with_reducible refine Stop.mk ?_); (conv => whnf); with_reducible first | refine br_t ?_ | refine br_f ?_ | refine br_nn ?_ | refine br_ns ?_ | refine br_not ?_ | refine br_d (fun h => ?_) (fun h => ?_) | refine br_e (fun h => ?_) (fun h => ?_) | refine br_n (fun h => ?_) (fun h => ?_) | refine drw (by kernel_rfl) ?_ | refine chk (by kernel_rfl) ?_ | refine stop ?_)
  all_goals refine Stop.mk ?_
  refine call_fn [] (awake17_fn _) rfl trivial (by decide) ?_
  rintro sv H' G' ⟨rfl, rfl⟩ hg
  refine ⟨Nat.le_of_ble_eq_true rfl, ?_⟩
  replace hsb := hsb.to hg
  clear hg
  repeat' ((fail_if_success with_reducible refine Stop.mk ?_); (conv => whnf); with_reducible first | refine br_t ?_ | refine br_f ?_ | refine br_nn ?_ | refine br_ns ?_ | refine br_not ?_ | refine br_d (fun h => ?_) (fun h => ?_) | refine br_e (fun h => ?_) (fun h => ?_) | refine br_n (fun h => ?_) (fun h => ?_) | refine drw (by kernel_rfl) ?_ | refine chk (by kernel_rfl) ?_ | refine stop ?_)
  all_goals refine Stop.mk ?_
  all_goals try
    refine call_fn [] (awake17_fn _) rfl trivial (by decide) ?_
    rintro sv H' G' ⟨rfl, rfl⟩ -
    refine ⟨Nat.le_of_ble_eq_true rfl, ?_⟩
    repeat' ((fail_if_success with_reducible refine Stop.mk ?_); (conv => whnf); with_reducible first | refine br_t ?_ | refine br_f ?_ | refine br_nn ?_ | refine br_ns ?_ | refine br_not ?_ | refine br_d (fun h => ?_) (fun h => ?_) | refine br_e (fun h => ?_) (fun h => ?_) | refine br_n (fun h => ?_) (fun h => ?_) | refine drw (by kernel_rfl) ?_ | refine chk (by kernel_rfl) ?_ | refine stop ?_)
    all_goals refine Stop.mk ?_
    exact fin_id hE 0 rfl rfl rfl rfl ⟨rfl, rfl⟩
  rw [hw1]
  refine call_fn [] (r7Instr_fn _ i regs hi.2.2.2.2) rfl trivial (by decide) ?_
  rintro sv H' G' ⟨e1, rfl, he1, rfl, rfl⟩ -
  refine ⟨Nat.le_of_ble_eq_true rfl, ?_⟩
  repeat' ((fail_if_success with_reducible refine Stop.mk ?_); (conv => whnf); with_reducible first | refine br_t ?_ | refine br_f ?_ | refine br_nn ?_ | refine br_ns ?_ | refine br_not ?_ | refine br_d (fun h => ?_) (fun h => ?_) | refine br_e (fun h => ?_) (fun h => ?_) | refine br_n (fun h => ?_) (fun h => ?_) | refine drw (by kernel_rfl) ?_ | refine chk (by kernel_rfl) ?_ | refine stop ?_)
  all_goals refine Stop.mk ?_
  all_goals try exact fin_id hE 0 rfl rfl rfl rfl ⟨rfl, rfl⟩
  rw [hw2]
  refine call_fn [] (r8Instr_fn _ m regs slots hm (by omega) (by omega)) rfl trivial (by decide) ?_
  rintro sv H' G' ⟨e2, rfl, he2, rfl, rfl⟩ -
  refine ⟨Nat.le_of_ble_eq_true rfl, ?_⟩
  repeat' ((fail_if_success with_reducible refine Stop.mk ?_); (conv => whnf); with_reducible first | refine br_t ?_ | refine br_f ?_ | refine br_nn ?_ | refine br_ns ?_ | refine br_not ?_ | refine br_d (fun h => ?_) (fun h => ?_) | refine br_e (fun h => ?_) (fun h => ?_) | refine br_n (fun h => ?_) (fun h => ?_) | refine drw (by kernel_rfl) ?_ | refine chk (by kernel_rfl) ?_ | refine stop ?_)
  all_goals refine Stop.mk ?_
  all_goals try exact fin_id hE 0 rfl rfl rfl rfl ⟨rfl, rfl⟩
  rw [hw3]
  refine call_fn [] (r7Term_fn _ t regs blocks) rfl trivial (by decide) ?_
  rintro sv H' G' ⟨e3, rfl, he3, rfl, rfl⟩ -
  refine ⟨Nat.le_of_ble_eq_true rfl, ?_⟩
  repeat' ((fail_if_success with_reducible refine Stop.mk ?_); (conv => whnf); with_reducible first | refine br_t ?_ | refine br_f ?_ | refine br_nn ?_ | refine br_ns ?_ | refine br_not ?_ | refine br_d (fun h => ?_) (fun h => ?_) | refine br_e (fun h => ?_) (fun h => ?_) | refine br_n (fun h => ?_) (fun h => ?_) | refine drw (by kernel_rfl) ?_ | refine chk (by kernel_rfl) ?_ | refine stop ?_)
  all_goals refine Stop.mk ?_
  all_goals try exact fin_id hE 0 rfl rfl rfl rfl ⟨rfl, rfl⟩
  have hoI := he1.1 (by omega)
  have hoM := he2.1 (by omega)
  have hoT := he3.1 (by omega)
  clear he1 he2 he3
  refine call_gh (gh_birthC 3 0 5 1 rfl rfl) (putInstr_fn G' i [] hi (by decide)).enters ?_
  rintro g s' ⟨rfl, rfl⟩
  refine call_fn [3, 4] (putInstr_fn _ i [] hi (by decide)) rfl ⟨rfl, rfl, trivial⟩ (by decide) ?_
  rintro sv H' G' ⟨rfl, rfl⟩ hg
  replace hsb := hsb.to hg
  clear hg
  rw [List.nil_append]
  refine ⟨Nat.le_of_ble_eq_true rfl, ?_⟩
  repeat' ((fail_if_success with_reducible refine Stop.mk ?_); (conv => whnf); with_reducible first | refine br_t ?_ | refine br_f ?_ | refine br_nn ?_ | refine br_ns ?_ | refine br_not ?_ | refine br_d (fun h => ?_) (fun h => ?_) | refine br_e (fun h => ?_) (fun h => ?_) | refine br_n (fun h => ?_) (fun h => ?_) | refine drw (by kernel_rfl) ?_ | refine chk (by kernel_rfl) ?_ | refine stop ?_)
  all_goals refine Stop.mk ?_
  refine call_fn [3, 4] (putMach_fn _ m (putInsB i) hm (by omega)) rfl ⟨rfl, rfl, trivial⟩ (by decide) ?_
  rintro sv H' G' ⟨rfl, rfl⟩ hg
  replace hsb := hsb.to hg
  clear hg
  refine ⟨Nat.le_of_ble_eq_true rfl, ?_⟩
  repeat' ((fail_if_success with_reducible refine Stop.mk ?_); (conv => whnf); with_reducible first | refine br_t ?_ | refine br_f ?_ | refine br_nn ?_ | refine br_ns ?_ | refine br_not ?_ | refine br_d (fun h => ?_) (fun h => ?_) | refine br_e (fun h => ?_) (fun h => ?_) | refine br_n (fun h => ?_) (fun h => ?_) | refine drw (by kernel_rfl) ?_ | refine chk (by kernel_rfl) ?_ | refine stop ?_)
  all_goals refine Stop.mk ?_
  refine call_fn [3, 4] (putTerm_fn _ t (putInsB i ++ putMacB m) hoT.1 (by rw [List.length_append]; omega)) rfl ⟨rfl, rfl, trivial⟩ (by decide) ?_
  rintro sv H' G' ⟨rfl, rfl⟩ hg
  replace hsb := hsb.to hg
  clear hg
  refine ⟨Nat.le_of_ble_eq_true rfl, ?_⟩
  repeat' ((fail_if_success with_reducible refine Stop.mk ?_); (conv => whnf); with_reducible first | refine br_t ?_ | refine br_f ?_ | refine br_nn ?_ | refine br_ns ?_ | refine br_not ?_ | refine br_d (fun h => ?_) (fun h => ?_) | refine br_e (fun h => ?_) (fun h => ?_) | refine br_n (fun h => ?_) (fun h => ?_) | refine drw (by kernel_rfl) ?_ | refine chk (by kernel_rfl) ?_ | refine stop ?_)
  all_goals refine Stop.mk ?_
  refine call_fn [] (r17PutInstr_fn _ i hi hoI.1.2) rfl trivial (by decide) ?_
  rintro sv H' G' ⟨rfl, rfl, rfl⟩ -
  refine ⟨Nat.le_of_ble_eq_true rfl, ?_⟩
  repeat' ((fail_if_success with_reducible refine Stop.mk ?_); (conv => whnf); with_reducible first | refine br_t ?_ | refine br_f ?_ | refine br_nn ?_ | refine br_ns ?_ | refine br_not ?_ | refine br_d (fun h => ?_) (fun h => ?_) | refine br_e (fun h => ?_) (fun h => ?_) | refine br_n (fun h => ?_) (fun h => ?_) | refine drw (by kernel_rfl) ?_ | refine chk (by kernel_rfl) ?_ | refine stop ?_)
  all_goals refine Stop.mk ?_
  refine call_fn [] (frzC (r17Put_fn _ m hm)) rfl trivial (by decide) ?_
  rintro sv H' G' ⟨⟨Ap, cp, rfl, hp⟩, rfl⟩ hg
  refine ⟨Nat.le_of_ble_eq_true rfl, ?_⟩
  replace hsb := hsb.to hg
  clear hg
  repeat' ((fail_if_success with_reducible refine Stop.mk ?_); (conv => whnf); with_reducible first | refine br_t ?_ | refine br_f ?_ | refine br_nn ?_ | refine br_ns ?_ | refine br_not ?_ | refine br_d (fun h => ?_) (fun h => ?_) | refine br_e (fun h => ?_) (fun h => ?_) | refine br_n (fun h => ?_) (fun h => ?_) | refine drw (by kernel_rfl) ?_ | refine chk (by kernel_rfl) ?_ | refine stop ?_)
  all_goals refine Stop.mk ?_
  refine ⟨_, hp, ⟨by show ((putInsB i).length + (putMacB m).length) * 1 ≤ _; omega, ?_⟩⟩
  clear hp
  repeat' ((fail_if_success with_reducible refine Stop.mk ?_); (conv => whnf); with_reducible first | refine br_t ?_ | refine br_f ?_ | refine br_nn ?_ | refine br_ns ?_ | refine br_not ?_ | refine br_d (fun h => ?_) (fun h => ?_) | refine br_e (fun h => ?_) (fun h => ?_) | refine br_n (fun h => ?_) (fun h => ?_) | refine drw (by kernel_rfl) ?_ | refine chk (by kernel_rfl) ?_ | refine stop ?_)
  all_goals refine Stop.mk ?_
  refine call_fn [] (frzC (r17PutTerm_fn _ t)) rfl trivial (by decide) ?_
  rintro sv H' G' ⟨⟨Aq, cq, rfl, hp⟩, rfl⟩ hg
  refine ⟨Nat.le_of_ble_eq_true rfl, ?_⟩
  replace hsb := hsb.to hg
  clear hg
  repeat' ((fail_if_success with_reducible refine Stop.mk ?_); (conv => whnf); with_reducible first | refine br_t ?_ | refine br_f ?_ | refine br_nn ?_ | refine br_ns ?_ | refine br_not ?_ | refine br_d (fun h => ?_) (fun h => ?_) | refine br_e (fun h => ?_) (fun h => ?_) | refine br_n (fun h => ?_) (fun h => ?_) | refine drw (by kernel_rfl) ?_ | refine chk (by kernel_rfl) ?_ | refine stop ?_)
  all_goals refine Stop.mk ?_
  refine ⟨_, hp, ⟨by show ((putInsB i).length + (putMacB m).length + (putTrmB t).length) * 1 ≤ _; omega, ?_⟩⟩
  clear hp
  repeat' ((fail_if_success with_reducible refine Stop.mk ?_); (conv => whnf); with_reducible first | refine br_t ?_ | refine br_f ?_ | refine br_nn ?_ | refine br_ns ?_ | refine br_not ?_ | refine br_d (fun h => ?_) (fun h => ?_) | refine br_e (fun h => ?_) (fun h => ?_) | refine br_n (fun h => ?_) (fun h => ?_) | refine drw (by kernel_rfl) ?_ | refine chk (by kernel_rfl) ?_ | refine stop ?_)
  all_goals refine Stop.mk ?_
  have hones : ∀ v ∈ byts (putInsB i) ++ byts (putMacB m) ++ byts (putTrmB t), v.oneCell' = true := fun v hv => byts_one (putInsB i ++ putMacB m ++ putTrmB t) v (by rw [byts_app, byts_app]; exact hv)
  refine call_fn [3, 4] (wout_fn _ (putInsB i ++ putMacB m ++ putTrmB t) (by simp only [List.length_append]; omega)) rfl ⟨rfl, rfl, trivial⟩ (by decide) ?_
  rintro sv H' G' ⟨rfl, rfl, rfl⟩ hg
  clear hg
  refine ⟨Nat.le_of_ble_eq_true rfl, ?_⟩
  repeat' ((fail_if_success with_reducible refine Stop.mk ?_); (conv => whnf); with_reducible first | refine br_t ?_ | refine br_f ?_ | refine br_nn ?_ | refine br_ns ?_ | refine br_not ?_ | refine br_d (fun h => ?_) (fun h => ?_) | refine br_e (fun h => ?_) (fun h => ?_) | refine br_n (fun h => ?_) (fun h => ?_) | refine drw (by kernel_rfl) ?_ | refine chk (by kernel_rfl) ?_ | refine stop ?_)
  all_goals refine Stop.mk ?_
  have hlW : (putInsB i).length + (putMacB m).length + (putTrmB t).length = (putInsB i ++ putMacB m ++ putTrmB t).length := by simp only [List.length_append]
  have hbW : byts (putInsB i) ++ byts (putMacB m) ++ byts (putTrmB t) = byts (putInsB i ++ putMacB m ++ putTrmB t) := by rw [byts_app, byts_app]
  rw [hlW, hbW]
  clear hones
  have hlen : (putInsB i ++ putMacB m ++ putTrmB t).length ≤ 200 := by simp only [List.length_append]; omega
  have hbW2 := isB_app2 (isB_app2 bI bM) bT
  have hWr : putInsB i ++ putMacB m ++ putTrmB t ++ rest = putInsB i ++ (putMacB m ++ (putTrmB t ++ rest)) := by simp only [List.append_assoc]
  generalize putInsB i ++ putMacB m ++ putTrmB t = W at *
  refine call_fz 6 rfl (byts_one _) (enters_of Try.func30 rfl rfl) fun Ay cy Gy hgy hsy => ?_
  (conv => whnf)
  refine call_fz 5 rfl (byts_one _) (enters_of Try.func30 rfl rfl) fun Az cz Gz hgz hsz => ?_
  (conv => whnf)
  have hW : SlB _ Az cz W := SlB.of W hsz rfl rfl rfl
  have hY : SlB _ Ay cy W := SlB.of W (Sl.to hgz hsy) rfl rfl rfl
  replace hsb := (hsb.to hgy).to hgz
  clear hgy hgz hsy hsz
  refine call_fn [] (same_fn _ Ay Az cy cz W W hY hW) rfl trivial (by decide) ?_
  rintro sv H' G' ⟨rfl, rfl, rfl⟩ -
  refine ⟨Nat.le_of_ble_eq_true rfl, ?_⟩
  rw [decide_eq_true rfl]
  clear hY
  repeat' ((fail_if_success with_reducible refine Stop.mk ?_); (conv => whnf); with_reducible first | refine br_t ?_ | refine br_f ?_ | refine br_nn ?_ | refine br_ns ?_ | refine br_not ?_ | refine br_d (fun h => ?_) (fun h => ?_) | refine br_e (fun h => ?_) (fun h => ?_) | refine br_n (fun h => ?_) (fun h => ?_) | refine drw (by kernel_rfl) ?_ | refine chk (by kernel_rfl) ?_ | refine stop ?_)
  all_goals refine Stop.mk ?_
  all_goals try (exfalso; rename_i h; first | exact h rfl | exact h (by decide))
  refine call_fn [] (radd_fn _ Az A cz c W rest hW hsb (by omega)) rfl trivial (by decide) ?_
  rintro sv H' G' ⟨rfl, rfl, rfl⟩ -
  refine ⟨Nat.le_of_ble_eq_true rfl, ?_⟩
  repeat' ((fail_if_success with_reducible refine Stop.mk ?_); (conv => whnf); with_reducible first | refine br_t ?_ | refine br_f ?_ | refine br_nn ?_ | refine br_ns ?_ | refine br_not ?_ | refine br_d (fun h => ?_) (fun h => ?_) | refine br_e (fun h => ?_) (fun h => ?_) | refine br_n (fun h => ?_) (fun h => ?_) | refine drw (by kernel_rfl) ?_ | refine chk (by kernel_rfl) ?_ | refine stop ?_)
  all_goals refine Stop.mk ?_
  rw [hWr]
  have hbZ : isB (putInsB i ++ (putMacB m ++ (putTrmB t ++ rest))) := by rw [← hWr]; exact isB_app2 hbW2 hbb
  have hlZ : (putInsB i ++ (putMacB m ++ (putTrmB t ++ rest))).length ≤ 2000 := by rw [← hWr, List.length_append]; omega
  have eI := rI (putMacB m ++ (putTrmB t ++ rest)) hoI
  have eM := rM (putTrmB t ++ rest) hoM
  have eT := rT rest hoT
  clear hWr hW rI rM rT
  refine call_fz 7 rfl (byts_one _) (enters_of Try.func13 rfl rfl) fun Ax cx Gx hgx hsx => ?_
  (conv => whnf)
  clear hgx
  generalize putInsB i ++ (putMacB m ++ (putTrmB t ++ rest)) = Z at *
  refine call_fn [] (pnew_fn _ Ax Z cx hbZ (SlB.of Z hsx rfl rfl rfl) (by omega)) rfl trivial (by decide) ?_
  rintro sv H' G' ⟨A1, c1, rfl, rfl, hC⟩ -
  refine ⟨Nat.le_of_ble_eq_true rfl, ?_⟩
  repeat' ((fail_if_success with_reducible refine Stop.mk ?_); (conv => whnf); with_reducible first | refine br_t ?_ | refine br_f ?_ | refine br_nn ?_ | refine br_ns ?_ | refine br_not ?_ | refine br_d (fun h => ?_) (fun h => ?_) | refine br_e (fun h => ?_) (fun h => ?_) | refine br_n (fun h => ?_) (fun h => ?_) | refine drw (by kernel_rfl) ?_ | refine chk (by kernel_rfl) ?_ | refine stop ?_)
  all_goals refine Stop.mk ?_
  clear hsx
  refine call_fn [8] (ins_fn regs hC (by omega)) rfl ⟨rfl, trivial⟩ (by decide) ?_
  rintro sv H' G' ⟨rfl, rfl, rfl⟩ -
  refine ⟨Nat.le_of_ble_eq_true rfl, ?_⟩
  replace hC := hC.next (sIns_suf regs _)
  rw [eI] at hC ⊢
  dsimp only at hC ⊢
  repeat' ((fail_if_success with_reducible refine Stop.mk ?_); (conv => whnf); with_reducible first | refine br_t ?_ | refine br_f ?_ | refine br_nn ?_ | refine br_ns ?_ | refine br_not ?_ | refine br_d (fun h => ?_) (fun h => ?_) | refine br_e (fun h => ?_) (fun h => ?_) | refine br_n (fun h => ?_) (fun h => ?_) | refine drw (by kernel_rfl) ?_ | refine chk (by kernel_rfl) ?_ | refine stop ?_)
  all_goals refine Stop.mk ?_
  all_goals try (exfalso; rename_i h; exact h rfl)
  rw [hw2]
  refine call_fn [8] (mach_fn regs slots hC (by omega)) rfl ⟨rfl, trivial⟩ (by decide) ?_
  rintro sv H' G' ⟨rfl, rfl, rfl⟩ -
  refine ⟨Nat.le_of_ble_eq_true rfl, ?_⟩
  replace hC := hC.next (sMac_suf regs slots _)
  rw [eM] at hC ⊢
  dsimp only at hC ⊢
  repeat' ((fail_if_success with_reducible refine Stop.mk ?_); (conv => whnf); with_reducible first | refine br_t ?_ | refine br_f ?_ | refine br_nn ?_ | refine br_ns ?_ | refine br_not ?_ | refine br_d (fun h => ?_) (fun h => ?_) | refine br_e (fun h => ?_) (fun h => ?_) | refine br_n (fun h => ?_) (fun h => ?_) | refine drw (by kernel_rfl) ?_ | refine chk (by kernel_rfl) ?_ | refine stop ?_)
  all_goals refine Stop.mk ?_
  all_goals try (exfalso; rename_i h; exact h rfl)
  rw [hw3]
  refine call_fn [8] (term_fn regs blocks hC (by omega) (by omega)) rfl ⟨rfl, trivial⟩ (by decide) ?_
  rintro sv H' G' ⟨rfl, rfl, rfl⟩ -
  refine ⟨Nat.le_of_ble_eq_true rfl, ?_⟩
  replace hC := hC.next (sTrm_suf regs blocks _)
  rw [eT] at hC ⊢
  dsimp only at hC ⊢
  repeat' ((fail_if_success with_reducible refine Stop.mk ?_); (conv => whnf); with_reducible first | refine br_t ?_ | refine br_f ?_ | refine br_nn ?_ | refine br_ns ?_ | refine br_not ?_ | refine br_d (fun h => ?_) (fun h => ?_) | refine br_e (fun h => ?_) (fun h => ?_) | refine br_n (fun h => ?_) (fun h => ?_) | refine drw (by kernel_rfl) ?_ | refine chk (by kernel_rfl) ?_ | refine stop ?_)
  all_goals refine Stop.mk ?_
  all_goals try (exfalso; rename_i h; exact h rfl)
  refine call_fn [8] (perr_fn) rfl ⟨rfl, trivial⟩ (by decide) ?_
  rintro sv H' G' ⟨rfl, rfl, rfl⟩ -
  refine ⟨Nat.le_of_ble_eq_true rfl, ?_⟩
  dsimp only
  repeat' ((fail_if_success with_reducible refine Stop.mk ?_); (conv => whnf); with_reducible first | refine br_t ?_ | refine br_f ?_ | refine br_nn ?_ | refine br_ns ?_ | refine br_not ?_ | refine br_d (fun h => ?_) (fun h => ?_) | refine br_e (fun h => ?_) (fun h => ?_) | refine br_n (fun h => ?_) (fun h => ?_) | refine drw (by kernel_rfl) ?_ | refine chk (by kernel_rfl) ?_ | refine stop ?_)
  all_goals refine Stop.mk ?_
  all_goals try (exfalso; rename_i h; first | exact h rfl | exact h (by decide))
  refine call_fn [8] (pleft_fn hC) rfl ⟨rfl, trivial⟩ (by decide) ?_
  rintro sv H' G' ⟨rfl, rfl, rfl⟩ -
  refine ⟨Nat.le_of_ble_eq_true rfl, ?_⟩
  rw [show sLeft (rest, 0) = (rest.length : Int) from if_pos rfl]
  repeat' ((fail_if_success with_reducible refine Stop.mk ?_); (conv => whnf); with_reducible first | refine br_t ?_ | refine br_f ?_ | refine br_nn ?_ | refine br_ns ?_ | refine br_not ?_ | refine br_d (fun h => ?_) (fun h => ?_) | refine br_e (fun h => ?_) (fun h => ?_) | refine br_n (fun h => ?_) (fun h => ?_) | refine drw (by kernel_rfl) ?_ | refine chk (by kernel_rfl) ?_ | refine stop ?_)
  all_goals refine Stop.mk ?_
  refine fin_id hE 0 rfl rfl rfl rfl ⟨?_, rfl⟩
  simp
end Go.Proofs.Ytknpjbbkageiiaa.Cu
