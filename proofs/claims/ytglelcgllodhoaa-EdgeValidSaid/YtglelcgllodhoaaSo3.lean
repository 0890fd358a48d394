/- Checks: the reference's, of instructions and terminators. -/
import Derived.Test.YtglelcgllodhoaaSo2
namespace Go.Proofs.Ytglelcgllodhoaa.Cu
open Go Go.SX Go.Proofs.Ytglelcgllodhoaa.VT
set_option maxRecDepth 100000
set_option linter.unusedVariables false
set_option linter.unusedSimpArgs false
theorem rinE_fn (G : Gh) (x n : Int) : Ct Try.prog 54 [.v (.int .i64 x), .v (.int .i64 n)] [] G fun sv H' G' => sv = .v (.bool (decide (0 ≤ x ∧ x < n))) ∧ H' = [] ∧ G' = G := by
  refine fn_of follows [] Try.func54 rfl rfl fun E hE => ?_
  repeat' ((fail_if_success with_reducible refine Stop.mk ?_); (conv => whnf); with_reducible first | refine br_t ?_ | refine br_f ?_ | refine br_nn ?_ | refine br_ns ?_ | refine br_not ?_ | refine br_d (fun h => ?_) (fun h => ?_) | refine br_e (fun h => ?_) (fun h => ?_) | refine br_n (fun h => ?_) (fun h => ?_) | refine drw (by kernel_rfl) ?_ | refine chk (by kernel_rfl) ?_ | refine stop ?_)
  all_goals refine Stop.mk ?_
  all_goals refine fin_all ⟨congrArg (fun b => SV.v (.bool b)) ?_, rfl, rfl⟩
  all_goals
    refine bdec ?_
    simp only [decide_eq_true_iff, beq_iff_eq, bne_iff_ne, ne_eq, Bool.false_eq_true, false_iff, true_iff] at *
    omega
/-- The error of an instruction, by its shape. -/
theorem eIns_is {regs : Int} {i : Ins} {sD sA sB sI : Bool} (e1 : decide (uD i.op) = sD) (e2 : decide (uA i.op) = sA) (e3 : decide (uB i.op) = sB) (e4 : decide (i.op = 1) = sI) :
    eIns regs i = if 1 ≤ i.op ∧ i.op ≤ 17 then (if (sD = true → 0 ≤ i.d ∧ i.d < regs) ∧ (sA = true → 0 ≤ i.a ∧ i.a < regs) ∧ (sB = true → 0 ≤ i.b ∧ i.b < regs) then (if ((sD = false → i.d = 0) ∧ (sA = false → i.a = 0) ∧ (sB = false → i.b = 0)) ∧ (sI = false → i.imm = 0) then 0 else 12) else 9) else 8 := by
  subst e1 e2 e3 e4
  have h1 : (known i.op ∧ i.op ≠ 18) = (1 ≤ i.op ∧ i.op ≤ 17) := by unfold known; exact propext (by omega)
  have h2 : (wOk (fI regs i) = true) = ((decide (uD i.op) = true → 0 ≤ i.d ∧ i.d < regs) ∧ (decide (uA i.op) = true → 0 ≤ i.a ∧ i.a < regs) ∧ (decide (uB i.op) = true → 0 ≤ i.b ∧ i.b < regs)) := by
    unfold wOk fI
    simp only [List.all_cons, List.all_nil, Bool.and_true, Bool.and_eq_true, Bool.or_eq_true, Bool.not_eq_true', decide_eq_true_eq, decide_eq_false_iff_not]
    exact propext (by
      constructor
      · rintro ⟨a, b, c⟩; exact ⟨fun h => a.resolve_left (fun h' => h' h), fun h => b.resolve_left (fun h' => h' h), fun h => c.resolve_left (fun h' => h' h)⟩
      · rintro ⟨a, b, c⟩; exact ⟨(Classical.em _).elim (fun h => .inr (a h)) .inl, (Classical.em _).elim (fun h => .inr (b h)) .inl, (Classical.em _).elim (fun h => .inr (c h)) .inl⟩)
  have h3 : (bOk (fI regs i) = true ∧ (i.op = 1 ∨ i.imm = 0)) = (((decide (uD i.op) = false → i.d = 0) ∧ (decide (uA i.op) = false → i.a = 0) ∧ (decide (uB i.op) = false → i.b = 0)) ∧ (decide (i.op = 1) = false → i.imm = 0)) := by
    unfold bOk fI
    simp only [List.all_cons, List.all_nil, Bool.and_true, Bool.and_eq_true, Bool.or_eq_true, decide_eq_true_eq, decide_eq_false_iff_not]
    exact propext (by
      constructor
      · rintro ⟨⟨a, b, c⟩, d⟩; exact ⟨⟨fun h => a.resolve_left h, fun h => b.resolve_left h, fun h => c.resolve_left h⟩, fun h => d.resolve_left h⟩
      · rintro ⟨⟨a, b, c⟩, d⟩; exact ⟨⟨(Classical.em _).imp id a, (Classical.em _).imp id b, (Classical.em _).imp id c⟩, (Classical.em _).imp id d⟩)
  unfold eIns
  simp only [h1, h2, h3]
set_option maxHeartbeats 8000000 in
theorem r7InstrE_fn (G : Gh) (i : Ins) (regs : Int) :
    Ct Try.prog 42 [i.sv, .v (.int .i64 regs)] [] G fun sv H' G' => sv = .v (.int .i64 (eIns regs i)) ∧ H' = [] ∧ G' = G := by
  refine fn_of follows [] Try.func42 rfl rfl fun E hE => ?_
  rcases shape_of i.op with ⟨e1, e2, e3, e4⟩ | ⟨e1, e2, e3, e4⟩ | ⟨e1, e2, e3, e4⟩ | ⟨e1, e2, e3, e4⟩ | ⟨e1, e2, e3, e4⟩
  all_goals
    have hsp := eIns_is (regs := regs) e1 e2 e3 e4
    simp only [Bool.false_eq_true, false_implies, true_implies, true_and, and_true, Bool.true_eq_false] at hsp
    repeat' ((fail_if_success with_reducible refine Stop.mk ?_); (conv => whnf); with_reducible first | refine br_t ?_ | refine br_f ?_ | refine br_nn ?_ | refine br_ns ?_ | refine br_not ?_ | refine br_d (fun h => ?_) (fun h => ?_) | refine br_e (fun h => ?_) (fun h => ?_) | refine br_n (fun h => ?_) (fun h => ?_) | refine drw (by kernel_rfl) ?_ | refine chk (by kernel_rfl) ?_ | refine stop ?_)
    all_goals refine Stop.mk ?_
  all_goals try
    refine call_fn [] (usesD_fn _ i.op) rfl trivial (by decide) ?_
    rintro sv H' G' ⟨rfl, rfl, rfl⟩ -
    refine ⟨Nat.le_of_ble_eq_true rfl, ?_⟩
    rw [e1]
    repeat' ((fail_if_success with_reducible refine Stop.mk ?_); (conv => whnf); with_reducible first | refine br_t ?_ | refine br_f ?_ | refine br_nn ?_ | refine br_ns ?_ | refine br_not ?_ | refine br_d (fun h => ?_) (fun h => ?_) | refine br_e (fun h => ?_) (fun h => ?_) | refine br_n (fun h => ?_) (fun h => ?_) | refine drw (by kernel_rfl) ?_ | refine chk (by kernel_rfl) ?_ | refine stop ?_)
    all_goals refine Stop.mk ?_
  all_goals try
    refine call_fn [] (rinE_fn _ i.d regs) rfl trivial (by decide) ?_
    rintro sv H' G' ⟨rfl, rfl, rfl⟩ -
    refine ⟨Nat.le_of_ble_eq_true rfl, ?_⟩
    repeat' ((fail_if_success with_reducible refine Stop.mk ?_); (conv => whnf); with_reducible first | refine br_t ?_ | refine br_f ?_ | refine br_nn ?_ | refine br_ns ?_ | refine br_not ?_ | refine br_d (fun h => ?_) (fun h => ?_) | refine br_e (fun h => ?_) (fun h => ?_) | refine br_n (fun h => ?_) (fun h => ?_) | refine drw (by kernel_rfl) ?_ | refine chk (by kernel_rfl) ?_ | refine stop ?_)
    all_goals refine Stop.mk ?_
  all_goals try
    refine call_fn [] (usesA_fn _ i.op) rfl trivial (by decide) ?_
    rintro sv H' G' ⟨rfl, rfl, rfl⟩ -
    refine ⟨Nat.le_of_ble_eq_true rfl, ?_⟩
    rw [e2]
    repeat' ((fail_if_success with_reducible refine Stop.mk ?_); (conv => whnf); with_reducible first | refine br_t ?_ | refine br_f ?_ | refine br_nn ?_ | refine br_ns ?_ | refine br_not ?_ | refine br_d (fun h => ?_) (fun h => ?_) | refine br_e (fun h => ?_) (fun h => ?_) | refine br_n (fun h => ?_) (fun h => ?_) | refine drw (by kernel_rfl) ?_ | refine chk (by kernel_rfl) ?_ | refine stop ?_)
    all_goals refine Stop.mk ?_
  all_goals try
    refine call_fn [] (rinE_fn _ i.a regs) rfl trivial (by decide) ?_
    rintro sv H' G' ⟨rfl, rfl, rfl⟩ -
    refine ⟨Nat.le_of_ble_eq_true rfl, ?_⟩
    repeat' ((fail_if_success with_reducible refine Stop.mk ?_); (conv => whnf); with_reducible first | refine br_t ?_ | refine br_f ?_ | refine br_nn ?_ | refine br_ns ?_ | refine br_not ?_ | refine br_d (fun h => ?_) (fun h => ?_) | refine br_e (fun h => ?_) (fun h => ?_) | refine br_n (fun h => ?_) (fun h => ?_) | refine drw (by kernel_rfl) ?_ | refine chk (by kernel_rfl) ?_ | refine stop ?_)
    all_goals refine Stop.mk ?_
  all_goals try
    refine call_fn [] (usesB_fn _ i.op) rfl trivial (by decide) ?_
    rintro sv H' G' ⟨rfl, rfl, rfl⟩ -
    refine ⟨Nat.le_of_ble_eq_true rfl, ?_⟩
    rw [e3]
    repeat' ((fail_if_success with_reducible refine Stop.mk ?_); (conv => whnf); with_reducible first | refine br_t ?_ | refine br_f ?_ | refine br_nn ?_ | refine br_ns ?_ | refine br_not ?_ | refine br_d (fun h => ?_) (fun h => ?_) | refine br_e (fun h => ?_) (fun h => ?_) | refine br_n (fun h => ?_) (fun h => ?_) | refine drw (by kernel_rfl) ?_ | refine chk (by kernel_rfl) ?_ | refine stop ?_)
    all_goals refine Stop.mk ?_
  all_goals try
    refine call_fn [] (rinE_fn _ i.b regs) rfl trivial (by decide) ?_
    rintro sv H' G' ⟨rfl, rfl, rfl⟩ -
    refine ⟨Nat.le_of_ble_eq_true rfl, ?_⟩
    repeat' ((fail_if_success with_reducible refine Stop.mk ?_); (conv => whnf); with_reducible first | refine br_t ?_ | refine br_f ?_ | refine br_nn ?_ | refine br_ns ?_ | refine br_not ?_ | refine br_d (fun h => ?_) (fun h => ?_) | refine br_e (fun h => ?_) (fun h => ?_) | refine br_n (fun h => ?_) (fun h => ?_) | refine drw (by kernel_rfl) ?_ | refine chk (by kernel_rfl) ?_ | refine stop ?_)
    all_goals refine Stop.mk ?_
  all_goals try
    refine call_fn [] (usesD_fn _ i.op) rfl trivial (by decide) ?_
    rintro sv H' G' ⟨rfl, rfl, rfl⟩ -
    refine ⟨Nat.le_of_ble_eq_true rfl, ?_⟩
    rw [e1]
    repeat' ((fail_if_success with_reducible refine Stop.mk ?_); (conv => whnf); with_reducible first | refine br_t ?_ | refine br_f ?_ | refine br_nn ?_ | refine br_ns ?_ | refine br_not ?_ | refine br_d (fun h => ?_) (fun h => ?_) | refine br_e (fun h => ?_) (fun h => ?_) | refine br_n (fun h => ?_) (fun h => ?_) | refine drw (by kernel_rfl) ?_ | refine chk (by kernel_rfl) ?_ | refine stop ?_)
    all_goals refine Stop.mk ?_
  all_goals try
    refine call_fn [] (usesA_fn _ i.op) rfl trivial (by decide) ?_
    rintro sv H' G' ⟨rfl, rfl, rfl⟩ -
    refine ⟨Nat.le_of_ble_eq_true rfl, ?_⟩
    rw [e2]
    repeat' ((fail_if_success with_reducible refine Stop.mk ?_); (conv => whnf); with_reducible first | refine br_t ?_ | refine br_f ?_ | refine br_nn ?_ | refine br_ns ?_ | refine br_not ?_ | refine br_d (fun h => ?_) (fun h => ?_) | refine br_e (fun h => ?_) (fun h => ?_) | refine br_n (fun h => ?_) (fun h => ?_) | refine drw (by kernel_rfl) ?_ | refine chk (by kernel_rfl) ?_ | refine stop ?_)
    all_goals refine Stop.mk ?_
  all_goals try
    refine call_fn [] (usesB_fn _ i.op) rfl trivial (by decide) ?_
    rintro sv H' G' ⟨rfl, rfl, rfl⟩ -
    refine ⟨Nat.le_of_ble_eq_true rfl, ?_⟩
    rw [e3]
    repeat' ((fail_if_success with_reducible refine Stop.mk ?_); (conv => whnf); with_reducible first | refine br_t ?_ | refine br_f ?_ | refine br_nn ?_ | refine br_ns ?_ | refine br_not ?_ | refine br_d (fun h => ?_) (fun h => ?_) | refine br_e (fun h => ?_) (fun h => ?_) | refine br_n (fun h => ?_) (fun h => ?_) | refine drw (by kernel_rfl) ?_ | refine chk (by kernel_rfl) ?_ | refine stop ?_)
    all_goals refine Stop.mk ?_
  all_goals
    refine fin_id hE 0 rfl rfl rfl rfl ⟨congrArg (fun e => SV.v (.int .i64 e)) ?_, rfl, rfl⟩
    rw [hsp]
    simp only [decide_eq_true_eq, decide_eq_false_iff_not] at e1 e2 e3 e4
    simp only [uD, uA, uB] at e1 e2 e3
    (repeat' split) <;> omega
set_option maxHeartbeats 8000000 in
theorem r7TermE_fn (G : Gh) (t : Trm) (regs blocks : Int) :
    Ct Try.prog 43 [t.sv, .v (.int .i64 regs), .v (.int .i64 blocks)] [] G fun sv H' G' => sv = .v (.int .i64 (eTrm regs blocks t)) ∧ H' = [] ∧ G' = G := by
  have hw : eTrm regs blocks t = if t.kind < 1 ∨ t.kind > 3 then 16 else if (t.kind = 1 ∨ (0 ≤ t.a ∧ t.a < regs)) then (if (t.kind = 3 ∨ (0 ≤ t.to_ ∧ t.to_ < blocks)) ∧ (t.kind ≠ 2 ∨ (0 ≤ t.els ∧ t.els < blocks)) then (if (t.kind ≠ 1 ∨ t.a = 0) ∧ (t.kind ≠ 3 ∨ t.to_ = 0) ∧ (t.kind = 2 ∨ t.els = 0) then 0 else 12) else 11) else 9 := by
    unfold eTrm wOk bOk fA fT fE
    simp only [List.all_cons, List.all_nil, Bool.and_true, Bool.and_eq_true, Bool.or_eq_true, Bool.not_eq_true', decide_eq_true_eq, decide_eq_false_iff_not, ne_eq, Decidable.not_not, bne_iff_ne, beq_iff_eq, bne_eq_false_iff_eq, beq_eq_false_iff_ne]
  refine fn_of follows [] Try.func43 rfl rfl fun E hE => ?_
  repeat' ((fail_if_success with_reducible refine Stop.mk ?_); (conv => whnf); with_reducible first | refine br_t ?_ | refine br_f ?_ | refine br_nn ?_ | refine br_ns ?_ | refine br_not ?_ | refine br_d (fun h => ?_) (fun h => ?_) | refine br_e (fun h => ?_) (fun h => ?_) | refine br_n (fun h => ?_) (fun h => ?_) | refine drw (by kernel_rfl) ?_ | refine chk (by kernel_rfl) ?_ | refine stop ?_)
  all_goals refine Stop.mk ?_
  all_goals try
    refine call_fn [] (rinE_fn _ t.to_ blocks) rfl trivial (by decide) ?_
    rintro sv H' G' ⟨rfl, rfl, rfl⟩ -
    refine ⟨Nat.le_of_ble_eq_true rfl, ?_⟩
    repeat' ((fail_if_success with_reducible refine Stop.mk ?_); (conv => whnf); with_reducible first | refine br_t ?_ | refine br_f ?_ | refine br_nn ?_ | refine br_ns ?_ | refine br_not ?_ | refine br_d (fun h => ?_) (fun h => ?_) | refine br_e (fun h => ?_) (fun h => ?_) | refine br_n (fun h => ?_) (fun h => ?_) | refine drw (by kernel_rfl) ?_ | refine chk (by kernel_rfl) ?_ | refine stop ?_)
    all_goals refine Stop.mk ?_
  all_goals try
    refine call_fn [] (rinE_fn _ t.a regs) rfl trivial (by decide) ?_
    rintro sv H' G' ⟨rfl, rfl, rfl⟩ -
    refine ⟨Nat.le_of_ble_eq_true rfl, ?_⟩
    repeat' ((fail_if_success with_reducible refine Stop.mk ?_); (conv => whnf); with_reducible first | refine br_t ?_ | refine br_f ?_ | refine br_nn ?_ | refine br_ns ?_ | refine br_not ?_ | refine br_d (fun h => ?_) (fun h => ?_) | refine br_e (fun h => ?_) (fun h => ?_) | refine br_n (fun h => ?_) (fun h => ?_) | refine drw (by kernel_rfl) ?_ | refine chk (by kernel_rfl) ?_ | refine stop ?_)
    all_goals refine Stop.mk ?_
  all_goals try
    refine call_fn [] (rinE_fn _ t.to_ blocks) rfl trivial (by decide) ?_
    rintro sv H' G' ⟨rfl, rfl, rfl⟩ -
    refine ⟨Nat.le_of_ble_eq_true rfl, ?_⟩
    repeat' ((fail_if_success with_reducible refine Stop.mk ?_); (conv => whnf); with_reducible first | refine br_t ?_ | refine br_f ?_ | refine br_nn ?_ | refine br_ns ?_ | refine br_not ?_ | refine br_d (fun h => ?_) (fun h => ?_) | refine br_e (fun h => ?_) (fun h => ?_) | refine br_n (fun h => ?_) (fun h => ?_) | refine drw (by kernel_rfl) ?_ | refine chk (by kernel_rfl) ?_ | refine stop ?_)
    all_goals refine Stop.mk ?_
  all_goals try
    refine call_fn [] (rinE_fn _ t.els blocks) rfl trivial (by decide) ?_
    rintro sv H' G' ⟨rfl, rfl, rfl⟩ -
    refine ⟨Nat.le_of_ble_eq_true rfl, ?_⟩
    repeat' ((fail_if_success with_reducible refine Stop.mk ?_); (conv => whnf); with_reducible first | refine br_t ?_ | refine br_f ?_ | refine br_nn ?_ | refine br_ns ?_ | refine br_not ?_ | refine br_d (fun h => ?_) (fun h => ?_) | refine br_e (fun h => ?_) (fun h => ?_) | refine br_n (fun h => ?_) (fun h => ?_) | refine drw (by kernel_rfl) ?_ | refine chk (by kernel_rfl) ?_ | refine stop ?_)
    all_goals refine Stop.mk ?_
  all_goals
    refine fin_id hE 0 rfl rfl rfl rfl ⟨congrArg (fun e => SV.v (.int .i64 e)) ?_, rfl, rfl⟩
    rw [hw]
    (repeat' split) <;> omega
end Go.Proofs.Ytglelcgllodhoaa.Cu
