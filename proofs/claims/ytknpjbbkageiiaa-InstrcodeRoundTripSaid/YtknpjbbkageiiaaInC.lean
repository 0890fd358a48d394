/- What may be written: the reference's checks of instructions and terminators. -/
import Derived.Test.YtknpjbbkageiiaaInB
namespace Go.Proofs.Ytknpjbbkageiiaa.Cu
open Go Go.SX Go.Proofs.Ytknpjbbkageiiaa.VT
set_option maxRecDepth 100000
set_option linter.unusedVariables false
set_option linter.unusedSimpArgs false

theorem rin_fn (G : Gh) (x n : Int) : Ct Try.prog 67 [.v (.int .i64 x), .v (.int .i64 n)] [] G fun sv H' G' => sv = .v (.bool (decide (0 ≤ x ∧ x < n))) ∧ H' = [] ∧ G' = G := by
  refine fn_of follows [] Try.func67 rfl rfl fun E hE => ?_
  repeat' ((fail_if_success with_reducible refine Stop.mk ?_); (conv => whnf); with_reducible first | refine br_t ?_ | refine br_f ?_ | refine br_nn ?_ | refine br_ns ?_ | refine br_not ?_ | refine br_d (fun h => ?_) (fun h => ?_) | refine br_e (fun h => ?_) (fun h => ?_) | refine br_n (fun h => ?_) (fun h => ?_) | refine drw (by kernel_rfl) ?_ | refine chk (by kernel_rfl) ?_ | refine stop ?_)
  all_goals refine Stop.mk ?_
  all_goals refine fin_all ⟨congrArg (fun b => SV.v (.bool b)) ?_, rfl, rfl⟩
  all_goals
    refine bdec ?_
    simp only [decide_eq_true_iff, beq_iff_eq, bne_iff_ne, ne_eq, Bool.false_eq_true, false_iff, true_iff] at *
    omega
theorem okIns_shape {regs : Int} {i : Ins} {sD sA sB sI : Bool} (e1 : decide (uD i.op) = sD) (e2 : decide (uA i.op) = sA) (e3 : decide (uB i.op) = sB) (e4 : decide (i.op = 1) = sI) (him : in64 i.imm) :
    okIns regs i ↔ (1 ≤ i.op ∧ i.op ≤ 17) ∧ (if sD = true then 0 ≤ i.d ∧ i.d < regs else i.d = 0) ∧ (if sA = true then 0 ≤ i.a ∧ i.a < regs else i.a = 0) ∧ (if sB = true then 0 ≤ i.b ∧ i.b < regs else i.b = 0) ∧ (if sI = true then True else i.imm = 0) := by
  subst e1 e2 e3 e4
  unfold okIns known
  simp only [decide_eq_true_eq, him]
  constructor
  · rintro ⟨h1, h2⟩; exact ⟨by omega, h2⟩
  · rintro ⟨h1, h2⟩; exact ⟨by omega, h2⟩
set_option maxHeartbeats 8000000 in
theorem r7Instr_fn (G : Gh) (i : Ins) (regs : Int) (him : in64 i.imm) :
    Ct Try.prog 21 [i.sv, .v (.int .i64 regs)] [] G fun sv H' G' => ∃ e : Int, sv = .v (.int .i64 e) ∧ (e = 0 ↔ okIns regs i) ∧ H' = [] ∧ G' = G := by
  refine fn_of follows [] Try.func21 rfl rfl fun E hE => ?_
  rcases shape_of i.op with ⟨e1, e2, e3, e4⟩ | ⟨e1, e2, e3, e4⟩ | ⟨e1, e2, e3, e4⟩ | ⟨e1, e2, e3, e4⟩ | ⟨e1, e2, e3, e4⟩
  all_goals
    have hsp := okIns_shape (regs := regs) e1 e2 e3 e4 him
    simp only [if_true, Bool.false_eq_true, if_false, and_true] at hsp
    repeat' ((fail_if_success with_reducible refine Stop.mk ?_); (conv => whnf); with_reducible first | refine br_t ?_ | refine br_f ?_ | refine br_nn ?_ | refine br_ns ?_ | refine br_not ?_ | refine br_d (fun h => ?_) (fun h => ?_) | refine br_e (fun h => ?_) (fun h => ?_) | refine br_n (fun h => ?_) (fun h => ?_) | refine drw (by kernel_rfl) ?_ | refine chk (by kernel_rfl) ?_ | refine stop ?_)
    all_goals refine Stop.mk ?_
  all_goals try
    refine call_fn [] (usesD_fn _ i.op) rfl trivial (by decide) ?_
    rintro sv H' G' ⟨rfl, rfl, rfl⟩ -
    refine ⟨Nat.le_of_ble_eq_true rfl, ?_⟩
    rw [e1]
    repeat' ((fail_if_success with_reducible refine Stop.mk ?_); (conv => whnf); with_reducible first | refine br_t ?_ | refine br_f ?_ | refine br_nn ?_ | refine br_ns ?_ | refine br_not ?_ | refine br_d (fun h => ?_) (fun h => ?_) | refine br_e (fun h => ?_) (fun h => ?_) | refine br_n (fun h => ?_) (fun h => ?_) | refine drw (by kernel_rfl) ?_ | refine chk (by kernel_rfl) ?_ | refine stop ?_)
    all_goals refine Stop.mk ?_
  all_goals try
    refine call_fn [] (rin_fn _ i.d regs) rfl trivial (by decide) ?_
    rintro sv H' G' ⟨rfl, rfl, rfl⟩ -
    refine ⟨Nat.le_of_ble_eq_true rfl, ?_⟩
    repeat' ((fail_if_success with_reducible refine Stop.mk ?_); (conv => whnf); with_reducible first | refine br_t ?_ | refine br_f ?_ | refine br_nn ?_ | refine br_ns ?_ | refine br_not ?_ | refine br_d (fun h => ?_) (fun h => ?_) | refine br_e (fun h => ?_) (fun h => ?_) | refine br_n (fun h => ?_) (fun h => ?_) | refine drw (by kernel_rfl) ?_ | refine chk (by kernel_rfl) ?_ | refine stop ?_)
    all_goals refine Stop.mk ?_
  all_goals try
    refine call_fn [] (usesA_fn _ i.op) rfl trivial (by decide) ?_
    rintro sv H' G' ⟨rfl, rfl, rfl⟩ -
    refine ⟨Nat.le_of_ble_eq_true rfl, ?_⟩
    rw [e2]
    repeat' ((fail_if_success with_reducible refine Stop.mk ?_); (conv => whnf); with_reducible first | refine br_t ?_ | refine br_f ?_ | refine br_nn ?_ | refine br_ns ?_ | refine br_not ?_ | refine br_d (fun h => ?_) (fun h => ?_) | refine br_e (fun h => ?_) (fun h => ?_) | refine br_n (fun h => ?_) (fun h => ?_) | refine drw (by kernel_rfl) ?_ | refine chk (by kernel_rfl) ?_ | refine stop ?_)
    all_goals refine Stop.mk ?_
  all_goals try
    refine call_fn [] (rin_fn _ i.a regs) rfl trivial (by decide) ?_
    rintro sv H' G' ⟨rfl, rfl, rfl⟩ -
    refine ⟨Nat.le_of_ble_eq_true rfl, ?_⟩
    repeat' ((fail_if_success with_reducible refine Stop.mk ?_); (conv => whnf); with_reducible first | refine br_t ?_ | refine br_f ?_ | refine br_nn ?_ | refine br_ns ?_ | refine br_not ?_ | refine br_d (fun h => ?_) (fun h => ?_) | refine br_e (fun h => ?_) (fun h => ?_) | refine br_n (fun h => ?_) (fun h => ?_) | refine drw (by kernel_rfl) ?_ | refine chk (by kernel_rfl) ?_ | refine stop ?_)
    all_goals refine Stop.mk ?_
  all_goals try
    refine call_fn [] (usesB_fn _ i.op) rfl trivial (by decide) ?_
    rintro sv H' G' ⟨rfl, rfl, rfl⟩ -
    refine ⟨Nat.le_of_ble_eq_true rfl, ?_⟩
    rw [e3]
    repeat' ((fail_if_success with_reducible refine Stop.mk ?_); (conv => whnf); with_reducible first | refine br_t ?_ | refine br_f ?_ | refine br_nn ?_ | refine br_ns ?_ | refine br_not ?_ | refine br_d (fun h => ?_) (fun h => ?_) | refine br_e (fun h => ?_) (fun h => ?_) | refine br_n (fun h => ?_) (fun h => ?_) | refine drw (by kernel_rfl) ?_ | refine chk (by kernel_rfl) ?_ | refine stop ?_)
    all_goals refine Stop.mk ?_
  all_goals try
    refine call_fn [] (rin_fn _ i.b regs) rfl trivial (by decide) ?_
    rintro sv H' G' ⟨rfl, rfl, rfl⟩ -
    refine ⟨Nat.le_of_ble_eq_true rfl, ?_⟩
    repeat' ((fail_if_success with_reducible refine Stop.mk ?_); (conv => whnf); with_reducible first | refine br_t ?_ | refine br_f ?_ | refine br_nn ?_ | refine br_ns ?_ | refine br_not ?_ | refine br_d (fun h => ?_) (fun h => ?_) | refine br_e (fun h => ?_) (fun h => ?_) | refine br_n (fun h => ?_) (fun h => ?_) | refine drw (by kernel_rfl) ?_ | refine chk (by kernel_rfl) ?_ | refine stop ?_)
    all_goals refine Stop.mk ?_
  all_goals try
    refine call_fn [] (usesD_fn _ i.op) rfl trivial (by decide) ?_
    rintro sv H' G' ⟨rfl, rfl, rfl⟩ -
    refine ⟨Nat.le_of_ble_eq_true rfl, ?_⟩
    rw [e1]
    repeat' ((fail_if_success with_reducible refine Stop.mk ?_); (conv => whnf); with_reducible first | refine br_t ?_ | refine br_f ?_ | refine br_nn ?_ | refine br_ns ?_ | refine br_not ?_ | refine br_d (fun h => ?_) (fun h => ?_) | refine br_e (fun h => ?_) (fun h => ?_) | refine br_n (fun h => ?_) (fun h => ?_) | refine drw (by kernel_rfl) ?_ | refine chk (by kernel_rfl) ?_ | refine stop ?_)
    all_goals refine Stop.mk ?_
  all_goals try
    refine call_fn [] (usesA_fn _ i.op) rfl trivial (by decide) ?_
    rintro sv H' G' ⟨rfl, rfl, rfl⟩ -
    refine ⟨Nat.le_of_ble_eq_true rfl, ?_⟩
    rw [e2]
    repeat' ((fail_if_success with_reducible refine Stop.mk ?_); (conv => whnf); with_reducible first | refine br_t ?_ | refine br_f ?_ | refine br_nn ?_ | refine br_ns ?_ | refine br_not ?_ | refine br_d (fun h => ?_) (fun h => ?_) | refine br_e (fun h => ?_) (fun h => ?_) | refine br_n (fun h => ?_) (fun h => ?_) | refine drw (by kernel_rfl) ?_ | refine chk (by kernel_rfl) ?_ | refine stop ?_)
    all_goals refine Stop.mk ?_
  all_goals try
    refine call_fn [] (usesB_fn _ i.op) rfl trivial (by decide) ?_
    rintro sv H' G' ⟨rfl, rfl, rfl⟩ -
    refine ⟨Nat.le_of_ble_eq_true rfl, ?_⟩
    rw [e3]
    repeat' ((fail_if_success with_reducible refine Stop.mk ?_); (conv => whnf); with_reducible first | refine br_t ?_ | refine br_f ?_ | refine br_nn ?_ | refine br_ns ?_ | refine br_not ?_ | refine br_d (fun h => ?_) (fun h => ?_) | refine br_e (fun h => ?_) (fun h => ?_) | refine br_n (fun h => ?_) (fun h => ?_) | refine drw (by kernel_rfl) ?_ | refine chk (by kernel_rfl) ?_ | refine stop ?_)
    all_goals refine Stop.mk ?_
  all_goals
    refine fin_id hE 0 rfl rfl rfl rfl ⟨_, rfl, ?_, rfl, rfl⟩
    rw [hsp]
    simp only [decide_eq_true_eq, decide_eq_false_iff_not] at e4
    constructor <;> intro hx <;> omega
set_option maxHeartbeats 8000000 in
theorem r7Term_fn (G : Gh) (t : Trm) (regs blocks : Int) :
    Ct Try.prog 23 [t.sv, .v (.int .i64 regs), .v (.int .i64 blocks)] [] G fun sv H' G' => ∃ e : Int, sv = .v (.int .i64 e) ∧ (e = 0 ↔ okTrm regs blocks t) ∧ H' = [] ∧ G' = G := by
  refine fn_of follows [] Try.func23 rfl rfl fun E hE => ?_
  have hok : ∀ k, t.kind = k → (okTrm regs blocks t ↔ (1 ≤ k ∧ k ≤ 3) ∧ (if k ≠ 1 then 0 ≤ t.a ∧ t.a < regs else t.a = 0) ∧ (if k ≠ 3 then 0 ≤ t.to_ ∧ t.to_ < blocks else t.to_ = 0) ∧ (if k = 2 then 0 ≤ t.els ∧ t.els < blocks else t.els = 0)) := by
    intro k hk; subst hk; rfl
  have h1 := hok 1
  have h2 := hok 2
  have h3 := hok 3
  simp only [ne_eq, not_true_eq_false, not_false_eq_true, if_true, if_false, show ¬ ((1 : Int) = 3) by decide, show ¬ ((1 : Int) = 2) by decide, show ¬ ((2 : Int) = 1) by decide, show ¬ ((2 : Int) = 3) by decide, show ¬ ((3 : Int) = 1) by decide, show ¬ ((3 : Int) = 2) by decide] at h1 h2 h3
  have h4 : ¬ (1 ≤ t.kind ∧ t.kind ≤ 3) → ¬ okTrm regs blocks t := fun h h' => h h'.1
  clear hok
  repeat' ((fail_if_success with_reducible refine Stop.mk ?_); (conv => whnf); with_reducible first | refine br_t ?_ | refine br_f ?_ | refine br_nn ?_ | refine br_ns ?_ | refine br_not ?_ | refine br_d (fun h => ?_) (fun h => ?_) | refine br_e (fun h => ?_) (fun h => ?_) | refine br_n (fun h => ?_) (fun h => ?_) | refine drw (by kernel_rfl) ?_ | refine chk (by kernel_rfl) ?_ | refine stop ?_)
  all_goals refine Stop.mk ?_
  all_goals try
    refine call_fn [] (rin_fn _ t.to_ blocks) rfl trivial (by decide) ?_
    rintro sv H' G' ⟨rfl, rfl, rfl⟩ -
    refine ⟨Nat.le_of_ble_eq_true rfl, ?_⟩
    repeat' ((fail_if_success with_reducible refine Stop.mk ?_); (conv => whnf); with_reducible first | refine br_t ?_ | refine br_f ?_ | refine br_nn ?_ | refine br_ns ?_ | refine br_not ?_ | refine br_d (fun h => ?_) (fun h => ?_) | refine br_e (fun h => ?_) (fun h => ?_) | refine br_n (fun h => ?_) (fun h => ?_) | refine drw (by kernel_rfl) ?_ | refine chk (by kernel_rfl) ?_ | refine stop ?_)
    all_goals refine Stop.mk ?_
  all_goals try
    refine call_fn [] (rin_fn _ t.a regs) rfl trivial (by decide) ?_
    rintro sv H' G' ⟨rfl, rfl, rfl⟩ -
    refine ⟨Nat.le_of_ble_eq_true rfl, ?_⟩
    repeat' ((fail_if_success with_reducible refine Stop.mk ?_); (conv => whnf); with_reducible first | refine br_t ?_ | refine br_f ?_ | refine br_nn ?_ | refine br_ns ?_ | refine br_not ?_ | refine br_d (fun h => ?_) (fun h => ?_) | refine br_e (fun h => ?_) (fun h => ?_) | refine br_n (fun h => ?_) (fun h => ?_) | refine drw (by kernel_rfl) ?_ | refine chk (by kernel_rfl) ?_ | refine stop ?_)
    all_goals refine Stop.mk ?_
  all_goals try
    refine call_fn [] (rin_fn _ t.to_ blocks) rfl trivial (by decide) ?_
    rintro sv H' G' ⟨rfl, rfl, rfl⟩ -
    refine ⟨Nat.le_of_ble_eq_true rfl, ?_⟩
    repeat' ((fail_if_success with_reducible refine Stop.mk ?_); (conv => whnf); with_reducible first | refine br_t ?_ | refine br_f ?_ | refine br_nn ?_ | refine br_ns ?_ | refine br_not ?_ | refine br_d (fun h => ?_) (fun h => ?_) | refine br_e (fun h => ?_) (fun h => ?_) | refine br_n (fun h => ?_) (fun h => ?_) | refine drw (by kernel_rfl) ?_ | refine chk (by kernel_rfl) ?_ | refine stop ?_)
    all_goals refine Stop.mk ?_
  all_goals try
    refine call_fn [] (rin_fn _ t.els blocks) rfl trivial (by decide) ?_
    rintro sv H' G' ⟨rfl, rfl, rfl⟩ -
    refine ⟨Nat.le_of_ble_eq_true rfl, ?_⟩
    repeat' ((fail_if_success with_reducible refine Stop.mk ?_); (conv => whnf); with_reducible first | refine br_t ?_ | refine br_f ?_ | refine br_nn ?_ | refine br_ns ?_ | refine br_not ?_ | refine br_d (fun h => ?_) (fun h => ?_) | refine br_e (fun h => ?_) (fun h => ?_) | refine br_n (fun h => ?_) (fun h => ?_) | refine drw (by kernel_rfl) ?_ | refine chk (by kernel_rfl) ?_ | refine stop ?_)
    all_goals refine Stop.mk ?_
  all_goals
    refine fin_id hE 0 rfl rfl rfl rfl ⟨_, rfl, ?_, rfl, rfl⟩
    generalize okTrm regs blocks t = P at *
  all_goals
    first
      | (have hk : t.kind = 1 := by omega
         rw [h1 hk]; constructor <;> intro hx <;> omega)
      | (have hk : t.kind = 2 := by omega
         rw [h2 hk]; constructor <;> intro hx <;> omega)
      | (have hk : t.kind = 3 := by omega
         rw [h3 hk]; constructor <;> intro hx <;> omega)
      | (have hn := h4 (by omega)
         constructor
         · intro hx; exact absurd hx (by decide)
         · intro hx; exact absurd hx hn)
theorem inRange_le {l regs slots : Int} (h : inRange l regs slots) (hr : regs ≤ 1000000000) (hs : slots ≤ 1000000000) : okLoc regs slots l := ⟨h, by unfold inRange at h; omega⟩
set_option maxHeartbeats 8000000 in
theorem r8Instr_fn (G : Gh) (i : Mac) (regs slots : Int) (hi : i.ok) (hr : regs ≤ 1000000000) (hs : slots ≤ 1000000000) :
    Ct Try.prog 22 [i.sv, .v (.int .i64 regs), .v (.int .i64 slots)] [] G fun sv H' G' => ∃ e : Int, sv = .v (.int .i64 e) ∧ (e = 0 ↔ okMac regs slots i) ∧ H' = [] ∧ G' = G := by
  obtain ⟨hi1, hi2, hi3, hi4, hi5, hi6, hi7⟩ := hi
  have hm : i.op = 18 → (okMac regs slots i ↔ (i.d = 0 ∧ i.a = 0 ∧ i.b = 0 ∧ i.imm = 0) ∧ (inRange i.dst regs slots ∧ inRange i.src regs slots) ∧ ¬ (i.dst.tmod 2 = 1 ∧ i.src.tmod 2 = 1)) := by
    intro h
    unfold okMac
    rw [if_pos h]
    constructor
    · rintro ⟨_, a, ⟨b, c⟩, d⟩; exact ⟨a, ⟨b.1, c.1⟩, d⟩
    · rintro ⟨a, ⟨b, c⟩, d⟩; exact ⟨by unfold known; omega, a, ⟨inRange_le b hr hs, inRange_le c hr hs⟩, d⟩
  have hn : i.op ≠ 18 → (okMac regs slots i ↔ i.op ≠ 2 ∧ (i.dst = 0 ∧ i.src = 0) ∧ okIns regs ⟨i.op, i.d, i.a, i.b, i.imm⟩) := by
    intro h
    unfold okMac okIns
    rw [if_neg h]
    dsimp only
    constructor
    · rintro ⟨⟨a, b⟩, c, d⟩; exact ⟨b, c, ⟨a, h⟩, d⟩
    · rintro ⟨b, c, ⟨a, _⟩, d⟩; exact ⟨⟨a, b⟩, c, d⟩
  have hkn : ¬ (1 ≤ i.op ∧ i.op ≤ 18) → ¬ okMac regs slots i := fun h h' => h h'.1.1
  have hk2 : i.op = 2 → ¬ okMac regs slots i := fun h h' => h'.1.2 h
  refine fn_of follows [] Try.func22 rfl rfl fun E hE => ?_
  repeat' ((fail_if_success with_reducible refine Stop.mk ?_); (conv => whnf); with_reducible first | refine br_t ?_ | refine br_f ?_ | refine br_nn ?_ | refine br_ns ?_ | refine br_not ?_ | refine br_d (fun h => ?_) (fun h => ?_) | refine br_e (fun h => ?_) (fun h => ?_) | refine br_n (fun h => ?_) (fun h => ?_) | refine drw (by kernel_rfl) ?_ | refine chk (by kernel_rfl) ?_ | refine stop ?_)
  all_goals refine Stop.mk ?_
  all_goals try
    refine call_fn [] (rinRange_fn _ i.dst regs slots hi6) rfl trivial (by decide) ?_
    rintro sv H' G' ⟨rfl, rfl, rfl⟩ -
    refine ⟨Nat.le_of_ble_eq_true rfl, ?_⟩
    repeat' ((fail_if_success with_reducible refine Stop.mk ?_); (conv => whnf); with_reducible first | refine br_t ?_ | refine br_f ?_ | refine br_nn ?_ | refine br_ns ?_ | refine br_not ?_ | refine br_d (fun h => ?_) (fun h => ?_) | refine br_e (fun h => ?_) (fun h => ?_) | refine br_n (fun h => ?_) (fun h => ?_) | refine drw (by kernel_rfl) ?_ | refine chk (by kernel_rfl) ?_ | refine stop ?_)
    all_goals refine Stop.mk ?_
  all_goals try
    refine call_fn [] (rinRange_fn _ i.src regs slots hi7) rfl trivial (by decide) ?_
    rintro sv H' G' ⟨rfl, rfl, rfl⟩ -
    refine ⟨Nat.le_of_ble_eq_true rfl, ?_⟩
    repeat' ((fail_if_success with_reducible refine Stop.mk ?_); (conv => whnf); with_reducible first | refine br_t ?_ | refine br_f ?_ | refine br_nn ?_ | refine br_ns ?_ | refine br_not ?_ | refine br_d (fun h => ?_) (fun h => ?_) | refine br_e (fun h => ?_) (fun h => ?_) | refine br_n (fun h => ?_) (fun h => ?_) | refine drw (by kernel_rfl) ?_ | refine chk (by kernel_rfl) ?_ | refine stop ?_)
    all_goals refine Stop.mk ?_
  all_goals try
    refine call_fn [] (r7Instr_fn _ ⟨i.op, i.d, i.a, i.b, i.imm⟩ regs hi5) rfl trivial (by decide) ?_
    rintro sv H' G' ⟨e, rfl, he, rfl, rfl⟩ -
    refine ⟨Nat.le_of_ble_eq_true rfl, ?_⟩
    repeat' ((fail_if_success with_reducible refine Stop.mk ?_); (conv => whnf); with_reducible first | refine br_t ?_ | refine br_f ?_ | refine br_nn ?_ | refine br_ns ?_ | refine br_not ?_ | refine br_d (fun h => ?_) (fun h => ?_) | refine br_e (fun h => ?_) (fun h => ?_) | refine br_n (fun h => ?_) (fun h => ?_) | refine drw (by kernel_rfl) ?_ | refine chk (by kernel_rfl) ?_ | refine stop ?_)
    all_goals refine Stop.mk ?_
  all_goals
    refine fin_id hE 0 rfl rfl rfl rfl ⟨_, rfl, ?_, rfl, rfl⟩
    generalize okMac regs slots i = P at *
    try generalize okIns regs ⟨i.op, i.d, i.a, i.b, i.imm⟩ = Q at *
  all_goals
    first
      | (have h18 : i.op ≠ 18 := by assumption
         rw [hn h18]
         constructor
         · intro hx; first | (exfalso; omega) | exact ⟨by omega, ⟨by omega, by omega⟩, he.1 (by assumption)⟩ | exact ⟨by omega, ⟨by omega, by omega⟩, he.1 hx⟩
         · rintro ⟨h1, ⟨h2, h3⟩, h4⟩; first | exact he.2 h4 | (exfalso; have := he.2 h4; omega))
      | (have h18 : i.op = 18 := by assumption
         rw [hm h18]
         generalize inRange i.dst regs slots = R1 at *
         generalize inRange i.src regs slots = R2 at *
         constructor
         · intro hx; first | (exfalso; omega) | exact ⟨by omega, ⟨by assumption, by assumption⟩, by omega⟩
         · rintro ⟨⟨h1, h2, h3, h4⟩, ⟨h5, h6⟩, h7⟩; first | rfl | (exfalso; first | contradiction | omega))
      | (constructor
         · intro hx; exact absurd hx (by decide)
         · intro hx; exfalso; first | exact hkn (by omega) hx | exact hk2 (by assumption) hx)
theorem same_fn' (G : Gh) (A B : Option Addr) (n c d : Nat) (xs ys : List Int) (hn : n = xs.length) (hs : SlB G A c xs) (ht : SlB G B d ys) :
    Ct Try.prog 30 [.v (.slice A n c), .v (.slice B ys.length d)] [] G fun sv H' G' => sv = .v (.bool (decide (xs = ys))) ∧ H' = [] ∧ G' = G := by
  subst hn; exact same_fn G A B c d xs ys hs ht
theorem read17_fn {G : Gh} {A A' B : Option Addr} {bs want : List Int} {c c' d : Nat} {p : Ps} (hC : CurOK G A c bs p) (hb : SlB G A' c' bs) (hw : SlB G B d want) :
    Ct Try.prog 35 [.p 0 0, .v (.slice A' bs.length c'), .v (.slice B want.length d)] [curL A bs c p] G fun sv H' G' =>
      sv = .v (.bool (decide (bs.length - p.1.length = want.length ∧ bs.take want.length = want))) ∧ H' = [curL A bs c p] ∧ G' = G := by
  have hcap := hb.cap
  have htop := hb.top
  have hcw := hw.cap
  have htw := hw.top
  refine fn_of follows [] Try.func35 rfl rfl fun E hE => ?_
  repeat' ((fail_if_success with_reducible refine Stop.mk ?_); (conv => whnf); with_reducible first | refine br_t ?_ | refine br_f ?_ | refine br_nn ?_ | refine br_ns ?_ | refine br_not ?_ | refine br_d (fun h => ?_) (fun h => ?_) | refine br_e (fun h => ?_) (fun h => ?_) | refine br_n (fun h => ?_) (fun h => ?_) | refine drw (by kernel_rfl) ?_ | refine chk (by kernel_rfl) ?_ | refine stop ?_)
  all_goals refine Stop.mk ?_
  refine call_fn [0] (pat_fn (p := p)) rfl ⟨rfl, trivial⟩ (by decide) ?_
  rintro sv H' G' ⟨rfl, rfl, rfl⟩ -
  refine ⟨Nat.le_of_ble_eq_true rfl, ?_⟩
  repeat' ((fail_if_success with_reducible refine Stop.mk ?_); (conv => whnf); with_reducible first | refine br_t ?_ | refine br_f ?_ | refine br_nn ?_ | refine br_ns ?_ | refine br_not ?_ | refine br_d (fun h => ?_) (fun h => ?_) | refine br_e (fun h => ?_) (fun h => ?_) | refine br_n (fun h => ?_) (fun h => ?_) | refine drw (by kernel_rfl) ?_ | refine chk (by kernel_rfl) ?_ | refine stop ?_)
  all_goals refine Stop.mk ?_
  · refine ⟨⟨by omega, by omega⟩, fun A2 hA2 => ?_⟩
    have hA3 : A2 = A' := by
      rw [hA2]
      split
      · rfl
      · cases A' <;> simp [Addr.add]
    subst hA3
    have h1 := slB_take hb want.length (by omega)
    have hl : (bs.take want.length).length = want.length := by rw [List.length_take]; omega
    rw [Int.toNat_natCast, Nat.sub_zero, Nat.sub_zero]
    dsimp only
    repeat' ((fail_if_success with_reducible refine Stop.mk ?_); (conv => whnf); with_reducible first | refine br_t ?_ | refine br_f ?_ | refine br_nn ?_ | refine br_ns ?_ | refine br_not ?_ | refine br_d (fun h => ?_) (fun h => ?_) | refine br_e (fun h => ?_) (fun h => ?_) | refine br_n (fun h => ?_) (fun h => ?_) | refine drw (by kernel_rfl) ?_ | refine chk (by kernel_rfl) ?_ | refine stop ?_)
    all_goals refine Stop.mk ?_
    refine call_fn [] (same_fn' _ A2 B want.length c' d (bs.take want.length) want hl.symm (SlB.of _ h1 hl.symm rfl rfl) hw) rfl trivial (by decide) ?_
    rintro sv H' G' ⟨rfl, rfl, rfl⟩ -
    refine ⟨Nat.le_of_ble_eq_true rfl, ?_⟩
    repeat' ((fail_if_success with_reducible refine Stop.mk ?_); (conv => whnf); with_reducible first | refine br_t ?_ | refine br_f ?_ | refine br_nn ?_ | refine br_ns ?_ | refine br_not ?_ | refine br_d (fun h => ?_) (fun h => ?_) | refine br_e (fun h => ?_) (fun h => ?_) | refine br_n (fun h => ?_) (fun h => ?_) | refine drw (by kernel_rfl) ?_ | refine chk (by kernel_rfl) ?_ | refine stop ?_)
    all_goals refine Stop.mk ?_
    refine fin_id hE 1 rfl rfl rfl rfl ⟨congrArg (fun b => SV.v (.bool b)) ?_, rfl, rfl⟩
    have h2 : bs.length - p.1.length = want.length := by omega
    simp only [h2, true_and]
  · refine fin_id hE 1 rfl rfl rfl rfl ⟨congrArg (fun b => SV.v (.bool b)) ?_, rfl, rfl⟩
    symm; simp only [decide_eq_false_iff_not]; rintro ⟨h1, h2⟩
    have := congrArg List.length h2
    rw [List.length_take] at this
    omega
  · refine fin_id hE 1 rfl rfl rfl rfl ⟨congrArg (fun b => SV.v (.bool b)) ?_, rfl, rfl⟩
    symm; simp only [decide_eq_false_iff_not]; rintro ⟨h1, h2⟩
    omega
end Go.Proofs.Ytknpjbbkageiiaa.Cu
