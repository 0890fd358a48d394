/- Source: the law's fixed results, and the law: what is valid stays valid. -/
import Derived.Test.YtglelcgllodhoaaSo5
namespace Go.Proofs.Ytglelcgllodhoaa.Cu
open Go Go.SX Go.Proofs.Ytglelcgllodhoaa.VT
set_option maxRecDepth 100000
set_option linter.unusedVariables false
set_option linter.unusedSimpArgs false
def f07 (r : Int) : Fn := ⟨0, r, [⟨[], ⟨3, 0, 0, 0⟩⟩]⟩
def z07 : Fn := ⟨0, 0, []⟩
set_option maxHeartbeats 8000000 in
theorem awake07_fn (G : Gh) : Ct Try.prog 20 [] [] G fun sv H' G' => sv = .v (.bool true) ∧ H' = [] := by
  refine fn_of follows [] Try.func20 rfl rfl fun E hE => ?_
  repeat' ((fail_if_success with_reducible refine Stop.mk ?_); (conv => whnf); with_reducible first | refine br_t ?_ | refine br_f ?_ | refine br_nn ?_ | refine br_ns ?_ | refine br_not ?_ | refine br_d (fun h => ?_) (fun h => ?_) | refine br_e (fun h => ?_) (fun h => ?_) | refine br_n (fun h => ?_) (fun h => ?_) | refine drw_fast (by kernel_rfl) ?_ | refine chk (by kernel_rfl) ?_ | refine stop ?_)
  all_goals refine Stop.mk ?_
  refine call_fz 0 rfl (by simp [Value.oneCell']) (enters_of Try.func26 rfl rfl) fun Af cf Gf hgf hsf => ?_
  (conv => whnf)
  have hF : ∀ r, kBlk.S Gf Af cf (f07 r).blocks := fun r => Kd.S.of hsf rfl rfl ⟨[[.slice none 0 0, .int .i64 3, .int .i64 0, .int .i64 0, .int .i64 0]], ⟨⟨none, 0, rfl, Kd.S.none_ _ _, by unfold Trm.ok in64; decide⟩, trivial⟩, rfl⟩
  clear hgf hsf
  refine call_fn [] (srcCheck_fn _ Af cf (f07 1) (hF 1) (by decide) (by decide +kernel)) rfl trivial (by decide) ?_
  rintro sv H' G' ⟨rfl, rfl⟩ hg
  refine ⟨Nat.le_of_ble_eq_true rfl, ?_⟩
  replace hF := fun r => (hF r).to hg
  clear hg
  rw [show eFn (f07 1) = 0 by decide +kernel]
  repeat' ((fail_if_success with_reducible refine Stop.mk ?_); (conv => whnf); with_reducible first | refine br_t ?_ | refine br_f ?_ | refine br_nn ?_ | refine br_ns ?_ | refine br_not ?_ | refine br_d (fun h => ?_) (fun h => ?_) | refine br_e (fun h => ?_) (fun h => ?_) | refine br_n (fun h => ?_) (fun h => ?_) | refine drw_fast (by kernel_rfl) ?_ | refine chk (by kernel_rfl) ?_ | refine stop ?_)
  all_goals refine Stop.mk ?_
  all_goals try (exfalso; first | exact h rfl | exact h (by decide))
  refine call_fn [] (srcCheck_fn _ Af cf (f07 0) (hF 0) (by decide) (by decide +kernel)) rfl trivial (by decide) ?_
  rintro sv H' G' ⟨rfl, rfl⟩ hg
  refine ⟨Nat.le_of_ble_eq_true rfl, ?_⟩
  replace hF := fun r => (hF r).to hg
  clear hg
  rw [show eFn (f07 0) = 9 by decide +kernel]
  repeat' ((fail_if_success with_reducible refine Stop.mk ?_); (conv => whnf); with_reducible first | refine br_t ?_ | refine br_f ?_ | refine br_nn ?_ | refine br_ns ?_ | refine br_not ?_ | refine br_d (fun h => ?_) (fun h => ?_) | refine br_e (fun h => ?_) (fun h => ?_) | refine br_n (fun h => ?_) (fun h => ?_) | refine drw_fast (by kernel_rfl) ?_ | refine chk (by kernel_rfl) ?_ | refine stop ?_)
  all_goals refine Stop.mk ?_
  all_goals try (exfalso; first | exact h rfl | exact h (by decide))
  refine call_fn [] (srcCheck_fn _ none 0 z07 (Kd.S.none_ _ _) (by decide) (by decide +kernel)) rfl trivial (by decide) ?_
  rintro sv H' G' ⟨rfl, rfl⟩ hg
  refine ⟨Nat.le_of_ble_eq_true rfl, ?_⟩
  replace hF := fun r => (hF r).to hg
  clear hg
  rw [show eFn z07 = 14 by decide +kernel]
  repeat' ((fail_if_success with_reducible refine Stop.mk ?_); (conv => whnf); with_reducible first | refine br_t ?_ | refine br_f ?_ | refine br_nn ?_ | refine br_ns ?_ | refine br_not ?_ | refine br_d (fun h => ?_) (fun h => ?_) | refine br_e (fun h => ?_) (fun h => ?_) | refine br_n (fun h => ?_) (fun h => ?_) | refine drw_fast (by kernel_rfl) ?_ | refine chk (by kernel_rfl) ?_ | refine stop ?_)
  all_goals refine Stop.mk ?_
  all_goals try (exfalso; first | exact h rfl | exact h (by decide))
  refine call_fn [] (srcInstr_fn _ ⟨18, 0, 0, 0, 0⟩ 9) rfl trivial (by decide) ?_
  rintro sv H' G' ⟨rfl, rfl⟩ hg
  refine ⟨Nat.le_of_ble_eq_true rfl, ?_⟩
  replace hF := fun r => (hF r).to hg
  clear hg
  rw [show eIns 9 ⟨18, 0, 0, 0, 0⟩ = 8 by decide +kernel]
  repeat' ((fail_if_success with_reducible refine Stop.mk ?_); (conv => whnf); with_reducible first | refine br_t ?_ | refine br_f ?_ | refine br_nn ?_ | refine br_ns ?_ | refine br_not ?_ | refine br_d (fun h => ?_) (fun h => ?_) | refine br_e (fun h => ?_) (fun h => ?_) | refine br_n (fun h => ?_) (fun h => ?_) | refine drw_fast (by kernel_rfl) ?_ | refine chk (by kernel_rfl) ?_ | refine stop ?_)
  all_goals refine Stop.mk ?_
  all_goals try (exfalso; first | exact h rfl | exact h (by decide))
  refine call_fn [] (srcTerm_fn _ ⟨0, 0, 0, 0⟩ 9 9) rfl trivial (by decide) ?_
  rintro sv H' G' ⟨rfl, rfl⟩ hg
  refine ⟨Nat.le_of_ble_eq_true rfl, ?_⟩
  replace hF := fun r => (hF r).to hg
  clear hg
  rw [show eTrm 9 9 ⟨0, 0, 0, 0⟩ = 16 by decide +kernel]
  repeat' ((fail_if_success with_reducible refine Stop.mk ?_); (conv => whnf); with_reducible first | refine br_t ?_ | refine br_f ?_ | refine br_nn ?_ | refine br_ns ?_ | refine br_not ?_ | refine br_d (fun h => ?_) (fun h => ?_) | refine br_e (fun h => ?_) (fun h => ?_) | refine br_n (fun h => ?_) (fun h => ?_) | refine drw_fast (by kernel_rfl) ?_ | refine chk (by kernel_rfl) ?_ | refine stop ?_)
  all_goals refine Stop.mk ?_
  all_goals try (exfalso; first | exact h rfl | exact h (by decide))
  refine call_fn [] (srcSuccs_fn _ ⟨2, 0, 3, 3⟩ (by unfold Trm.ok in64; decide)) rfl trivial (by decide) ?_
  rintro sv H' G' ⟨⟨A1, c1, rfl, h1⟩, rfl⟩ hg
  refine ⟨Nat.le_of_ble_eq_true rfl, ?_⟩
  replace hF := fun r => (hF r).to hg
  clear hg
  rw [show succs ⟨2, 0, 3, 3⟩ = [3, 3] by decide +kernel] at h1 ⊢
  repeat' ((fail_if_success with_reducible refine Stop.mk ?_); (conv => whnf); with_reducible first | refine br_t ?_ | refine br_f ?_ | refine br_nn ?_ | refine br_ns ?_ | refine br_not ?_ | refine br_d (fun h => ?_) (fun h => ?_) | refine br_e (fun h => ?_) (fun h => ?_) | refine br_n (fun h => ?_) (fun h => ?_) | refine drw_fast (by kernel_rfl) ?_ | refine chk (by kernel_rfl) ?_ | refine stop ?_)
  all_goals refine Stop.mk ?_
  refine call_fz 3 rfl (by simp [Value.oneCell']) (enters_of Try.func39 rfl rfl) fun An cn Gn hgn hsn => ?_
  (conv => whnf)
  replace hF := fun r => (hF r).to hgn
  replace h1 := h1.to hgn
  have h2 : kN.S Gn An cn [3, 3] := Kd.S.of hsn rfl rfl ⟨[[.int .i64 3], [.int .i64 3]], ⟨⟨rfl, by decide⟩, ⟨rfl, by decide⟩, trivial⟩, rfl⟩
  clear hgn hsn
  refine call_fn [] (numbers_fn _ A1 An c1 cn [3, 3] [3, 3] h1 h2) rfl trivial (by decide) ?_
  rintro sv H' G' ⟨rfl, rfl, rfl⟩ -
  rw [decide_eq_true rfl]
  refine ⟨Nat.le_of_ble_eq_true rfl, ?_⟩
  repeat' ((fail_if_success with_reducible refine Stop.mk ?_); (conv => whnf); with_reducible first | refine br_t ?_ | refine br_f ?_ | refine br_nn ?_ | refine br_ns ?_ | refine br_not ?_ | refine br_d (fun h => ?_) (fun h => ?_) | refine br_e (fun h => ?_) (fun h => ?_) | refine br_n (fun h => ?_) (fun h => ?_) | refine drw_fast (by kernel_rfl) ?_ | refine chk (by kernel_rfl) ?_ | refine stop ?_)
  all_goals refine Stop.mk ?_
  all_goals try (exfalso; first | exact h rfl | exact h (by decide))
  refine call_fn [] (srcCode_fn _ Af cf (f07 1) (hF 1) (by decide) (by decide +kernel)) rfl trivial (by decide) ?_
  rintro sv H' G' ⟨rfl, rfl, rfl⟩ -
  refine ⟨Nat.le_of_ble_eq_true rfl, ?_⟩
  rw [show ((totB (f07 1).blocks : Nat) : Int) = 0 by decide +kernel]
  repeat' ((fail_if_success with_reducible refine Stop.mk ?_); (conv => whnf); with_reducible first | refine br_t ?_ | refine br_f ?_ | refine br_nn ?_ | refine br_ns ?_ | refine br_not ?_ | refine br_d (fun h => ?_) (fun h => ?_) | refine br_e (fun h => ?_) (fun h => ?_) | refine br_n (fun h => ?_) (fun h => ?_) | refine drw_fast (by kernel_rfl) ?_ | refine chk (by kernel_rfl) ?_ | refine stop ?_)
  all_goals refine Stop.mk ?_
  exact fin_id hE 0 rfl rfl rfl rfl ⟨rfl, rfl⟩
theorem eTrm_is (t : Trm) (regs blocks : Int) : eTrm regs blocks t = if t.kind < 1 ∨ t.kind > 3 then 16 else if (t.kind = 1 ∨ (0 ≤ t.a ∧ t.a < regs)) then (if (t.kind = 3 ∨ (0 ≤ t.to_ ∧ t.to_ < blocks)) ∧ (t.kind ≠ 2 ∨ (0 ≤ t.els ∧ t.els < blocks)) then (if (t.kind ≠ 1 ∨ t.a = 0) ∧ (t.kind ≠ 3 ∨ t.to_ = 0) ∧ (t.kind = 2 ∨ t.els = 0) then 0 else 12) else 11) else 9 := by
  unfold eTrm wOk bOk fA fT fE
  simp only [List.all_cons, List.all_nil, Bool.and_true, Bool.and_eq_true, Bool.or_eq_true, Bool.not_eq_true', decide_eq_true_eq, decide_eq_false_iff_not, ne_eq, Decidable.not_not, bne_iff_ne, beq_iff_eq, bne_eq_false_iff_eq, beq_eq_false_iff_ne]
theorem eTrm_zero {t : Trm} {n m : Int} (h : eTrm n m t = 0) : (t.kind = 1 ∧ (0 ≤ t.to_ ∧ t.to_ < m)) ∨ (t.kind = 2 ∧ (0 ≤ t.to_ ∧ t.to_ < m) ∧ (0 ≤ t.els ∧ t.els < m)) ∨ t.kind = 3 := by
  rw [eTrm_is] at h
  split at h
  · omega
  split at h
  · split at h
    · omega
    · omega
  · omega
theorem eTrm_grow {t : Trm} {n m k : Int} (hk : 0 ≤ k) (h : eTrm n m t = 0) : eTrm (n + k) (m + k) t = 0 := by
  rw [eTrm_is] at h ⊢
  (repeat' split at h) <;> (repeat' split) <;> omega
theorem eIns_zero {i : Ins} {n k : Int} {sD sA sB sI : Bool} (e1 : decide (uD i.op) = sD) (e2 : decide (uA i.op) = sA) (e3 : decide (uB i.op) = sB) (e4 : decide (i.op = 1) = sI) (hk : 0 ≤ k) (h : eIns n i = 0) :
    ((sD = true → i.d < n) ∧ (sA = true → i.a < n) ∧ (sB = true → i.b < n) ∧ 0 ≤ i.d ∧ 0 ≤ i.a ∧ 0 ≤ i.b) ∧ eIns (n + k) i = 0 := by
  rw [eIns_is e1 e2 e3 e4] at h ⊢
  cases sD <;> cases sA <;> cases sB <;> cases sI <;> simp only [Bool.false_eq_true, Bool.true_eq_false, false_implies, true_implies, true_and, and_true] at h ⊢ <;> (repeat' split at h) <;> (try omega) <;> (refine ⟨by omega, ?_⟩) <;> (repeat' split) <;> omega
end Go.Proofs.Ytglelcgllodhoaa.Cu
