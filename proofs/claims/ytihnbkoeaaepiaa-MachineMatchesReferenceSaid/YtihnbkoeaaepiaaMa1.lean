/- Machines: the reference's check of an instruction. -/
import Derived.Test.YtihnbkoeaaepiaaSo3
namespace Go.Proofs.Ytihnbkoeaaepiaa.Cu
open Go Go.SX Go.Proofs.Ytihnbkoeaaepiaa.VT
set_option maxRecDepth 100000
set_option linter.unusedVariables false
set_option linter.unusedSimpArgs false
set_option maxHeartbeats 8000000 in
theorem r8InstrE_fn (G : Gh) (i : Mac) (regs slots : Int) (hi : i.ok) :
    Ct Try.prog 39 [i.sv, .v (.int .i64 regs), .v (.int .i64 slots)] [] G fun sv H' G' => sv = .v (.int .i64 (eMac regs slots i)) ∧ H' = [] ∧ G' = G := by
  obtain ⟨_, _, _, _, _, hi6, hi7⟩ := hi
  have hid1 : inRange i.dst regs slots → i.dst.tmod 2 = i.dst % 2 := fun h => Int.tmod_eq_emod_of_nonneg h.1
  have hid2 : inRange i.src regs slots → i.src.tmod 2 = i.src % 2 := fun h => Int.tmod_eq_emod_of_nonneg h.1
  refine fn_of follows [] Try.func39 rfl rfl fun E hE => ?_
  repeat' ((fail_if_success with_reducible refine Stop.mk ?_); (conv => whnf); with_reducible first | refine br_t ?_ | refine br_f ?_ | refine br_nn ?_ | refine br_ns ?_ | refine br_not ?_ | refine br_d (fun h => ?_) (fun h => ?_) | refine br_e (fun h => ?_) (fun h => ?_) | refine br_n (fun h => ?_) (fun h => ?_) | refine drw (by kernel_rfl) ?_ | refine chk (by kernel_rfl) ?_ | refine stop ?_)
  all_goals refine Stop.mk ?_
  all_goals try
    refine call_fn [] (rinRange_fn _ i.dst regs slots hi6) rfl trivial (by decide) ?_
    rintro sv H' G' ⟨rfl, rfl, rfl⟩ -
    refine ⟨Nat.le_of_ble_eq_true rfl, ?_⟩
    repeat' ((fail_if_success with_reducible refine Stop.mk ?_); (conv => whnf); with_reducible first | refine br_t ?_ | refine br_f ?_ | refine br_nn ?_ | refine br_ns ?_ | refine br_not ?_ | refine br_d (fun h => ?_) (fun h => ?_) | refine br_e (fun h => ?_) (fun h => ?_) | refine br_n (fun h => ?_) (fun h => ?_) | refine drw (by kernel_rfl) ?_ | refine chk (by kernel_rfl) ?_ | refine stop ?_)
    all_goals refine Stop.mk ?_
  all_goals try
    refine call_fn [] (rinRange_fn _ i.src regs slots hi7) rfl trivial (by decide) ?_
    rintro sv H' G' ⟨rfl, rfl, rfl⟩ -
    refine ⟨Nat.le_of_ble_eq_true rfl, ?_⟩
    repeat' ((fail_if_success with_reducible refine Stop.mk ?_); (conv => whnf); with_reducible first | refine br_t ?_ | refine br_f ?_ | refine br_nn ?_ | refine br_ns ?_ | refine br_not ?_ | refine br_d (fun h => ?_) (fun h => ?_) | refine br_e (fun h => ?_) (fun h => ?_) | refine br_n (fun h => ?_) (fun h => ?_) | refine drw (by kernel_rfl) ?_ | refine chk (by kernel_rfl) ?_ | refine stop ?_)
    all_goals refine Stop.mk ?_
  all_goals try
    refine call_fn [] (r7InstrE_fn _ ⟨i.op, i.d, i.a, i.b, i.imm⟩ regs) rfl trivial (by decide) ?_
    rintro sv H' G' ⟨rfl, rfl, rfl⟩ -
    refine ⟨Nat.le_of_ble_eq_true rfl, ?_⟩
    repeat' ((fail_if_success with_reducible refine Stop.mk ?_); (conv => whnf); with_reducible first | refine br_t ?_ | refine br_f ?_ | refine br_nn ?_ | refine br_ns ?_ | refine br_not ?_ | refine br_d (fun h => ?_) (fun h => ?_) | refine br_e (fun h => ?_) (fun h => ?_) | refine br_n (fun h => ?_) (fun h => ?_) | refine drw (by kernel_rfl) ?_ | refine chk (by kernel_rfl) ?_ | refine stop ?_)
    all_goals refine Stop.mk ?_
  all_goals
    refine fin_id hE 0 rfl rfl rfl rfl ⟨congrArg (fun e => SV.v (.int .i64 e)) ?_, rfl, rfl⟩
    unfold eMac known Mac.ins'
    generalize eIns regs ⟨i.op, i.d, i.a, i.b, i.imm⟩ = e at *
    by_cases hR1 : inRange i.dst regs slots <;> by_cases hR2 : inRange i.src regs slots
  all_goals try (exfalso; contradiction)
  all_goals
    simp only [hR1, hR2, true_and, false_and, and_false, if_false, true_implies, false_implies, and_true] at hid1 hid2 ⊢
    (repeat' split) <;> omega
end Go.Proofs.Ytihnbkoeaaepiaa.Cu
