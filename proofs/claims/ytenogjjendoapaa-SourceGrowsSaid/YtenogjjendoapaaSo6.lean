/- Source: the law's fixed results, and the law: what is valid stays valid. -/
import Derived.Test.YtenogjjendoapaaSo5
namespace Go.Proofs.Ytenogjjendoapaa.Cu
open Go Go.SX Go.Proofs.Ytenogjjendoapaa.VT
set_option maxRecDepth 100000
set_option linter.unusedVariables false
set_option linter.unusedSimpArgs false
def f07 (r : Int) : Fn := ⟨0, r, [⟨[], ⟨3, 0, 0, 0⟩⟩]⟩
def z07 : Fn := ⟨0, 0, []⟩
set_option maxHeartbeats 8000000 in
theorem awake07_fn (G : Gh) : Ct Try.prog 5 [] [] G fun sv H' G' => sv = .v (.bool true) ∧ H' = [] := by
  refine fn_of follows [] Try.func5 rfl rfl fun E hE => ?_
  repeat' ((fail_if_success with_reducible refine Stop.mk ?_); (conv => whnf); with_reducible first | refine br_t ?_ | refine br_f ?_ | refine br_nn ?_ | refine br_ns ?_ | refine br_not ?_ | refine br_d (fun h => ?_) (fun h => ?_) | refine br_e (fun h => ?_) (fun h => ?_) | refine br_n (fun h => ?_) (fun h => ?_) | refine drw_fast (by kernel_rfl) ?_ | refine chk (by kernel_rfl) ?_ | refine stop ?_)
  all_goals refine Stop.mk ?_
  refine call_fz 0 rfl (by simp [Value.oneCell']) (enters_of Try.func14 rfl rfl) fun Af cf Gf hgf hsf => ?_
  (conv => whnf)
  have hF : ∀ r, kBlk.S Gf Af cf (f07 r).blocks := fun r => Kd.S.of hsf rfl rfl ⟨[[.slice none 0 0, .int .i64 3, .int .i64 0, .int .i64 0, .int .i64 0]], ⟨⟨none, 0, rfl, Kd.S.none_ _ _, by unfold Trm.ok in64; decide⟩, trivial⟩, rfl⟩
  clear hgf hsf
  refine call_fn [] (srcCheck_fn _ Af cf (f07 1) (hF 1) (by decide) (by decide +kernel)) rfl trivial (by decide) ?_
  rintro sv H' G' ⟨rfl, rfl⟩ hg
  refine ⟨Nat.le_of_ble_eq_true rfl, ?_⟩
  replace hF := fun r => (hF r).to hg
  clear hg
  rw [show eFn (f07 1) = 0 by decide +kernel]
  repeat' ((fail_if_success with_reducible refine Stop.mk ?_); (conv => whnf); with_reducible first | refine br_t ?_ | refine br_f ?_ | refine br_nn ?_ | refine br_ns ?_ | refine br_not ?_ | refine br_d (fun h => ?_) (fun h => ?_) | refine br_e (fun h => ?_) (fun h => ?_) | refine br_n (fun h => ?_) (fun h => ?_) | refine drw_fast (by kernel_rfl) ?_ | refine chk (by kernel_rfl) ?_ | refine stop ?_)
  all_goals refine Stop.mk ?_
  all_goals try (exfalso; first | exact h rfl | exact h (by decide))
  refine call_fn [] (srcCheck_fn _ Af cf (f07 0) (hF 0) (by decide) (by decide +kernel)) rfl trivial (by decide) ?_
  rintro sv H' G' ⟨rfl, rfl⟩ hg
  refine ⟨Nat.le_of_ble_eq_true rfl, ?_⟩
  replace hF := fun r => (hF r).to hg
  clear hg
  rw [show eFn (f07 0) = 9 by decide +kernel]
  repeat' ((fail_if_success with_reducible refine Stop.mk ?_); (conv => whnf); with_reducible first | refine br_t ?_ | refine br_f ?_ | refine br_nn ?_ | refine br_ns ?_ | refine br_not ?_ | refine br_d (fun h => ?_) (fun h => ?_) | refine br_e (fun h => ?_) (fun h => ?_) | refine br_n (fun h => ?_) (fun h => ?_) | refine drw_fast (by kernel_rfl) ?_ | refine chk (by kernel_rfl) ?_ | refine stop ?_)
  all_goals refine Stop.mk ?_
  all_goals try (exfalso; first | exact h rfl | exact h (by decide))
  refine call_fn [] (srcCheck_fn _ none 0 z07 (Kd.S.none_ _ _) (by decide) (by decide +kernel)) rfl trivial (by decide) ?_
  rintro sv H' G' ⟨rfl, rfl⟩ hg
  refine ⟨Nat.le_of_ble_eq_true rfl, ?_⟩
  replace hF := fun r => (hF r).to hg
  clear hg
  rw [show eFn z07 = 14 by decide +kernel]
  repeat' ((fail_if_success with_reducible refine Stop.mk ?_); (conv => whnf); with_reducible first | refine br_t ?_ | refine br_f ?_ | refine br_nn ?_ | refine br_ns ?_ | refine br_not ?_ | refine br_d (fun h => ?_) (fun h => ?_) | refine br_e (fun h => ?_) (fun h => ?_) | refine br_n (fun h => ?_) (fun h => ?_) | refine drw_fast (by kernel_rfl) ?_ | refine chk (by kernel_rfl) ?_ | refine stop ?_)
  all_goals refine Stop.mk ?_
  all_goals try (exfalso; first | exact h rfl | exact h (by decide))
  refine call_fn [] (srcInstr_fn _ ⟨18, 0, 0, 0, 0⟩ 9) rfl trivial (by decide) ?_
  rintro sv H' G' ⟨rfl, rfl⟩ hg
  refine ⟨Nat.le_of_ble_eq_true rfl, ?_⟩
  replace hF := fun r => (hF r).to hg
  clear hg
  rw [show eIns 9 ⟨18, 0, 0, 0, 0⟩ = 8 by decide +kernel]
  repeat' ((fail_if_success with_reducible refine Stop.mk ?_); (conv => whnf); with_reducible first | refine br_t ?_ | refine br_f ?_ | refine br_nn ?_ | refine br_ns ?_ | refine br_not ?_ | refine br_d (fun h => ?_) (fun h => ?_) | refine br_e (fun h => ?_) (fun h => ?_) | refine br_n (fun h => ?_) (fun h => ?_) | refine drw_fast (by kernel_rfl) ?_ | refine chk (by kernel_rfl) ?_ | refine stop ?_)
  all_goals refine Stop.mk ?_
  all_goals try (exfalso; first | exact h rfl | exact h (by decide))
  refine call_fn [] (srcTerm_fn _ ⟨0, 0, 0, 0⟩ 9 9) rfl trivial (by decide) ?_
  rintro sv H' G' ⟨rfl, rfl⟩ hg
  refine ⟨Nat.le_of_ble_eq_true rfl, ?_⟩
  replace hF := fun r => (hF r).to hg
  clear hg
  rw [show eTrm 9 9 ⟨0, 0, 0, 0⟩ = 16 by decide +kernel]
  repeat' ((fail_if_success with_reducible refine Stop.mk ?_); (conv => whnf); with_reducible first | refine br_t ?_ | refine br_f ?_ | refine br_nn ?_ | refine br_ns ?_ | refine br_not ?_ | refine br_d (fun h => ?_) (fun h => ?_) | refine br_e (fun h => ?_) (fun h => ?_) | refine br_n (fun h => ?_) (fun h => ?_) | refine drw_fast (by kernel_rfl) ?_ | refine chk (by kernel_rfl) ?_ | refine stop ?_)
  all_goals refine Stop.mk ?_
  all_goals try (exfalso; first | exact h rfl | exact h (by decide))
  refine call_fn [] (srcSuccs_fn _ ⟨2, 0, 3, 3⟩ (by unfold Trm.ok in64; decide)) rfl trivial (by decide) ?_
  rintro sv H' G' ⟨⟨A1, c1, rfl, h1⟩, rfl⟩ hg
  refine ⟨Nat.le_of_ble_eq_true rfl, ?_⟩
  replace hF := fun r => (hF r).to hg
  clear hg
  rw [show succs ⟨2, 0, 3, 3⟩ = [3, 3] by decide +kernel] at h1 ⊢
  repeat' ((fail_if_success with_reducible refine Stop.mk ?_); (conv => whnf); with_reducible first | refine br_t ?_ | refine br_f ?_ | refine br_nn ?_ | refine br_ns ?_ | refine br_not ?_ | refine br_d (fun h => ?_) (fun h => ?_) | refine br_e (fun h => ?_) (fun h => ?_) | refine br_n (fun h => ?_) (fun h => ?_) | refine drw_fast (by kernel_rfl) ?_ | refine chk (by kernel_rfl) ?_ | refine stop ?_)
  all_goals refine Stop.mk ?_
  refine call_fz 3 rfl (by simp [Value.oneCell']) (enters_of Try.func15 rfl rfl) fun An cn Gn hgn hsn => ?_
  (conv => whnf)
  replace hF := fun r => (hF r).to hgn
  replace h1 := h1.to hgn
  have h2 : kN.S Gn An cn [3, 3] := Kd.S.of hsn rfl rfl ⟨[[.int .i64 3], [.int .i64 3]], ⟨⟨rfl, by decide⟩, ⟨rfl, by decide⟩, trivial⟩, rfl⟩
  clear hgn hsn
  refine call_fn [] (numbers_fn _ A1 An c1 cn [3, 3] [3, 3] h1 h2) rfl trivial (by decide) ?_
  rintro sv H' G' ⟨rfl, rfl, rfl⟩ -
  rw [decide_eq_true rfl]
  refine ⟨Nat.le_of_ble_eq_true rfl, ?_⟩
  repeat' ((fail_if_success with_reducible refine Stop.mk ?_); (conv => whnf); with_reducible first | refine br_t ?_ | refine br_f ?_ | refine br_nn ?_ | refine br_ns ?_ | refine br_not ?_ | refine br_d (fun h => ?_) (fun h => ?_) | refine br_e (fun h => ?_) (fun h => ?_) | refine br_n (fun h => ?_) (fun h => ?_) | refine drw_fast (by kernel_rfl) ?_ | refine chk (by kernel_rfl) ?_ | refine stop ?_)
  all_goals refine Stop.mk ?_
  all_goals try (exfalso; first | exact h rfl | exact h (by decide))
  refine call_fn [] (srcCode_fn _ Af cf (f07 1) (hF 1) (by decide) (by decide +kernel)) rfl trivial (by decide) ?_
  rintro sv H' G' ⟨rfl, rfl, rfl⟩ -
  refine ⟨Nat.le_of_ble_eq_true rfl, ?_⟩
  rw [show ((totB (f07 1).blocks : Nat) : Int) = 0 by decide +kernel]
  repeat' ((fail_if_success with_reducible refine Stop.mk ?_); (conv => whnf); with_reducible first | refine br_t ?_ | refine br_f ?_ | refine br_nn ?_ | refine br_ns ?_ | refine br_not ?_ | refine br_d (fun h => ?_) (fun h => ?_) | refine br_e (fun h => ?_) (fun h => ?_) | refine br_n (fun h => ?_) (fun h => ?_) | refine drw_fast (by kernel_rfl) ?_ | refine chk (by kernel_rfl) ?_ | refine stop ?_)
  all_goals refine Stop.mk ?_
  exact fin_id hE 0 rfl rfl rfl rfl ⟨rfl, rfl⟩
theorem eTrm_is (t : Trm) (regs blocks : Int) : eTrm regs blocks t = if t.kind < 1 ∨ t.kind > 3 then 16 else if (t.kind = 1 ∨ (0 ≤ t.a ∧ t.a < regs)) then (if (t.kind = 3 ∨ (0 ≤ t.to_ ∧ t.to_ < blocks)) ∧ (t.kind ≠ 2 ∨ (0 ≤ t.els ∧ t.els < blocks)) then (if (t.kind ≠ 1 ∨ t.a = 0) ∧ (t.kind ≠ 3 ∨ t.to_ = 0) ∧ (t.kind = 2 ∨ t.els = 0) then 0 else 12) else 11) else 9 := by
  unfold eTrm wOk bOk fA fT fE
  simp only [List.all_cons, List.all_nil, Bool.and_true, Bool.and_eq_true, Bool.or_eq_true, Bool.not_eq_true', decide_eq_true_eq, decide_eq_false_iff_not, ne_eq, Decidable.not_not, bne_iff_ne, beq_iff_eq, bne_eq_false_iff_eq, beq_eq_false_iff_ne]
theorem eTrm_zero {t : Trm} {n m : Int} (h : eTrm n m t = 0) : (t.kind = 1 ∧ (0 ≤ t.to_ ∧ t.to_ < m)) ∨ (t.kind = 2 ∧ (0 ≤ t.to_ ∧ t.to_ < m) ∧ (0 ≤ t.els ∧ t.els < m)) ∨ t.kind = 3 := by
  rw [eTrm_is] at h
  split at h
  · omega
  split at h
  · split at h
    · omega
    · omega
  · omega
theorem eTrm_grow {t : Trm} {n m k : Int} (hk : 0 ≤ k) (h : eTrm n m t = 0) : eTrm (n + k) (m + k) t = 0 := by
  rw [eTrm_is] at h ⊢
  (repeat' split at h) <;> (repeat' split) <;> omega
theorem eIns_zero {i : Ins} {n k : Int} {sD sA sB sI : Bool} (e1 : decide (uD i.op) = sD) (e2 : decide (uA i.op) = sA) (e3 : decide (uB i.op) = sB) (e4 : decide (i.op = 1) = sI) (hk : 0 ≤ k) (h : eIns n i = 0) :
    ((sD = true → i.d < n) ∧ (sA = true → i.a < n) ∧ (sB = true → i.b < n) ∧ 0 ≤ i.d ∧ 0 ≤ i.a ∧ 0 ≤ i.b) ∧ eIns (n + k) i = 0 := by
  rw [eIns_is e1 e2 e3 e4] at h ⊢
  cases sD <;> cases sA <;> cases sB <;> cases sI <;> simp only [Bool.false_eq_true, Bool.true_eq_false, false_implies, true_implies, true_and, and_true] at h ⊢ <;> (repeat' split at h) <;> (try omega) <;> (refine ⟨by omega, ?_⟩) <;> (repeat' split) <;> omega
set_option maxHeartbeats 8000000 in
theorem sgrows_fn0 (G : Gh) (i : Ins) (t : Trm) (regs blocks more : Int) (e1 : decide (uD i.op) = true) (e2 : decide (uA i.op) = false) (e3 : decide (uB i.op) = false) (e4 : decide (i.op = 1) = true) (hi : i.ok) (ht : t.ok) (h1 : 0 ≤ regs ∧ regs < 65536) (h2 : 0 ≤ blocks ∧ blocks < 65536) (h3 : 0 ≤ more ∧ more < 256) :
    Ct Try.prog 3 [i.sv, t.sv, .v (.int .u16 regs), .v (.int .u16 blocks), .v (.int .u8 more)] [] G fun sv H' G' => sv = .v (.bool true) ∧ H' = [] := by
  have hw1 : IntKind.i64.wrap regs = regs := i64_in (by omega) (by omega)
  have hw2 : IntKind.i64.wrap blocks = blocks := i64_in (by omega) (by omega)
  have hw3 : IntKind.i64.wrap more = more := i64_in (by omega) (by omega)
  have hw4 : IntKind.i64.wrap (regs + more) = regs + more := i64_in (by omega) (by omega)
  have hw5 : IntKind.i64.wrap (blocks + more) = blocks + more := i64_in (by omega) (by omega)
  have hz := @eTrm_zero t regs blocks
  have hgr := @eTrm_grow t regs blocks more h3.1
  refine fn_of follows [] Try.func3 rfl rfl fun E hE => ?_
  repeat' ((fail_if_success with_reducible refine Stop.mk ?_); (conv => whnf); with_reducible first | refine br_t ?_ | refine br_f ?_ | refine br_nn ?_ | refine br_ns ?_ | refine br_not ?_ | refine br_d (fun h => ?_) (fun h => ?_) | refine br_e (fun h => ?_) (fun h => ?_) | refine br_n (fun h => ?_) (fun h => ?_) | refine drw_fast (by kernel_rfl) ?_ | refine chk (by kernel_rfl) ?_ | refine stop ?_)
  all_goals refine Stop.mk ?_
  refine call_fn [] (awake07_fn _) rfl trivial (by decide) ?_
  rintro sv H' G' ⟨rfl, rfl⟩ -
  refine ⟨Nat.le_of_ble_eq_true rfl, ?_⟩
  repeat' ((fail_if_success with_reducible refine Stop.mk ?_); (conv => whnf); with_reducible first | refine br_t ?_ | refine br_f ?_ | refine br_nn ?_ | refine br_ns ?_ | refine br_not ?_ | refine br_d (fun h => ?_) (fun h => ?_) | refine br_e (fun h => ?_) (fun h => ?_) | refine br_n (fun h => ?_) (fun h => ?_) | refine drw_fast (by kernel_rfl) ?_ | refine chk (by kernel_rfl) ?_ | refine stop ?_)
  all_goals refine Stop.mk ?_
  refine call_fn [] (of_fn _ i.op) rfl trivial (by decide) ?_
  rintro sv H' G' ⟨rfl, rfl, rfl⟩ -
  refine ⟨Nat.le_of_ble_eq_true rfl, ?_⟩
  rw [hw1, hw2, hw3]
  all_goals
    have hzi := @eIns_zero i regs more _ _ _ _ e1 e2 e3 e4 h3.1
    simp only [Bool.false_eq_true, false_implies, true_implies, true_and] at hzi
    rw [e1, e2, e3]
    repeat' ((fail_if_success with_reducible refine Stop.mk ?_); (conv => whnf); with_reducible first | refine br_t ?_ | refine br_f ?_ | refine br_nn ?_ | refine br_ns ?_ | refine br_not ?_ | refine br_d (fun h => ?_) (fun h => ?_) | refine br_e (fun h => ?_) (fun h => ?_) | refine br_n (fun h => ?_) (fun h => ?_) | refine drw_fast (by kernel_rfl) ?_ | refine chk (by kernel_rfl) ?_ | refine stop ?_)
    all_goals refine Stop.mk ?_
    refine call_fn [] (srcInstr_fn _ i regs) rfl trivial (by decide) ?_
    rintro sv H' G' ⟨rfl, rfl⟩ -
    refine ⟨Nat.le_of_ble_eq_true rfl, ?_⟩
    generalize eIns regs i = e at *
    repeat' ((fail_if_success with_reducible refine Stop.mk ?_); (conv => whnf); with_reducible first | refine br_t ?_ | refine br_f ?_ | refine br_nn ?_ | refine br_ns ?_ | refine br_not ?_ | refine br_d (fun h => ?_) (fun h => ?_) | refine br_e (fun h => ?_) (fun h => ?_) | refine br_n (fun h => ?_) (fun h => ?_) | refine drw_fast (by kernel_rfl) ?_ | refine chk (by kernel_rfl) ?_ | refine stop ?_)
    all_goals refine Stop.mk ?_
  all_goals try
    rw [hw4]
    obtain ⟨hzi1, hzi2⟩ := hzi (by omega)
    refine call_fn [] (srcInstr_fn _ i (regs + more)) rfl trivial (by decide) ?_
    rintro sv H' G' ⟨rfl, rfl⟩ -
    refine ⟨Nat.le_of_ble_eq_true rfl, ?_⟩
    rw [hzi2]
    repeat' ((fail_if_success with_reducible refine Stop.mk ?_); (conv => whnf); first | with_reducible refine br_t ?_ | with_reducible refine br_f ?_ | with_reducible refine br_nn ?_ | with_reducible refine br_ns ?_ | with_reducible refine br_not ?_ | ((with_reducible refine br_d (fun h => ?_) (fun h => ?_)) <;> try (exfalso; omega)) | ((with_reducible refine br_e (fun h => ?_) (fun h => ?_)) <;> try (exfalso; omega)) | ((with_reducible refine br_n (fun h => ?_) (fun h => ?_)) <;> try (exfalso; omega)) | with_reducible refine drw_fast (by kernel_rfl) ?_ | with_reducible refine chk (by kernel_rfl) ?_ | with_reducible refine stop ?_)
    all_goals refine Stop.mk ?_
  all_goals try (exfalso; omega)
  all_goals
    refine call_fn [] (srcTerm_fn _ t regs blocks) rfl trivial (by decide) ?_
    rintro sv H' G' ⟨rfl, rfl⟩ -
    refine ⟨Nat.le_of_ble_eq_true rfl, ?_⟩
    generalize eTrm regs blocks t = et at *
    repeat' ((fail_if_success with_reducible refine Stop.mk ?_); (conv => whnf); with_reducible first | refine br_t ?_ | refine br_f ?_ | refine br_nn ?_ | refine br_ns ?_ | refine br_not ?_ | refine br_d (fun h => ?_) (fun h => ?_) | refine br_e (fun h => ?_) (fun h => ?_) | refine br_n (fun h => ?_) (fun h => ?_) | refine drw_fast (by kernel_rfl) ?_ | refine chk (by kernel_rfl) ?_ | refine stop ?_)
    all_goals refine Stop.mk ?_
  all_goals try exact fin_id hE 0 rfl rfl rfl rfl ⟨rfl, rfl⟩
  all_goals
    have hz1 := hz (by omega)
    have hgr1 := hgr (by omega)
    refine call_fn [] (srcSuccs_fn _ t ht) rfl trivial (by decide) ?_
    rintro sv H' G' ⟨⟨A1, c1, rfl, hsu⟩, rfl⟩ -
    refine ⟨Nat.le_of_ble_eq_true rfl, ?_⟩
    repeat' ((fail_if_success with_reducible refine Stop.mk ?_); (conv => whnf); with_reducible first | refine br_t ?_ | refine br_f ?_ | refine br_nn ?_ | refine br_ns ?_ | refine br_not ?_ | refine br_d (fun h => ?_) (fun h => ?_) | refine br_e (fun h => ?_) (fun h => ?_) | refine br_n (fun h => ?_) (fun h => ?_) | refine drw_fast (by kernel_rfl) ?_ | refine chk (by kernel_rfl) ?_ | refine stop ?_)
    all_goals refine Stop.mk ?_
  all_goals clear hz hgr hzi
  all_goals
    have hlen : (succs t).length ≤ 2 := by unfold succs; (repeat' split) <;> simp
    have hrange : ∀ x ∈ succs t, 0 ≤ x ∧ x < blocks := by
      intro x hx
      unfold succs at hx
      split at hx
      · simp at hx; omega
      · split at hx
        · simp at hx; omega
        · simp at hx
    refine loop_gc hE [0, 1] rfl rfl ?_
    (conv => whnf)
    refine loop_vars follows [] (α := Nat) (fun j => [(17, .v (.int .i64 j))]) (fun _ => [.cells 23 [.v (.int .i64 i.op), .v (.int .i64 i.d), .v (.int .i64 i.a), .v (.int .i64 i.b), .v (.int .i64 i.imm)], .cells 25 [.v (.int .i64 t.kind), .v (.int .i64 t.a), .v (.int .i64 t.to_), .v (.int .i64 t.els)]]) (fun _ => _) (fun j => j ≤ (succs t).length) (fun j => (succs t).length - j) 0
      (Nat.zero_le _) rfl rfl ?_ ?_
    ·
      refine ⟨?_⟩
      (conv => whnf)
      (repeat' (first | exact trivial | exact .inl rfl | exact .inr rfl | refine And.intro ?_ ?_))
    intro j hj
    have hw6 : IntKind.i64.wrap ((j : Int) + 1) = ((j + 1 : Nat) : Int) := by rw [i64_in (by omega) (by omega)]; simp
    repeat' ((fail_if_success with_reducible refine Stop.mk ?_); (conv => whnf); with_reducible first | refine br_t ?_ | refine br_f ?_ | refine br_nn ?_ | refine br_ns ?_ | refine br_not ?_ | refine br_d (fun h => ?_) (fun h => ?_) | refine br_e (fun h => ?_) (fun h => ?_) | refine br_n (fun h => ?_) (fun h => ?_) | refine drw_fast (by kernel_rfl) ?_ | refine chk (by kernel_rfl) ?_ | refine stop ?_)
    all_goals refine Stop.mk ?_
    ·
      obtain ⟨_, hs_, hat_⟩ := hsu.at (sz := 1) rfl
      refine ⟨⟨by omega, by omega⟩, _, hs_, fun ad had => ?_⟩
      obtain ⟨x, cells, hx, hRx, hGx⟩ := hat_ j (by omega) ad (by first | exact had | (rw [Int.toNat_natCast] at had; exact had))
      clear had hat_ hs_
      obtain ⟨rfl, hx1⟩ := hRx
      have hxr := hrange x (List.mem_of_getElem? hx)
      repeat' ((fail_if_success with_reducible refine Stop.mk ?_); (conv => whnf); with_reducible first | refine br_t ?_ | refine br_f ?_ | refine br_nn ?_ | refine br_ns ?_ | refine br_not ?_ | refine br_d (fun h => ?_) (fun h => ?_) | refine br_e (fun h => ?_) (fun h => ?_) | refine br_n (fun h => ?_) (fun h => ?_) | refine drw_fast (by kernel_rfl) ?_ | refine chk (by kernel_rfl) ?_ | refine stop ?_)
      all_goals refine Stop.mk ?_
      refine ⟨_, hGx 0 _ rfl, ?_⟩
      repeat' ((fail_if_success with_reducible refine Stop.mk ?_); (conv => whnf); first | with_reducible refine br_t ?_ | with_reducible refine br_f ?_ | with_reducible refine br_nn ?_ | with_reducible refine br_ns ?_ | with_reducible refine br_not ?_ | ((with_reducible refine br_d (fun h => ?_) (fun h => ?_)) <;> try (exfalso; omega)) | ((with_reducible refine br_e (fun h => ?_) (fun h => ?_)) <;> try (exfalso; omega)) | ((with_reducible refine br_n (fun h => ?_) (fun h => ?_)) <;> try (exfalso; omega)) | with_reducible refine drw_fast (by kernel_rfl) ?_ | with_reducible refine chk (by kernel_rfl) ?_ | with_reducible refine stop ?_)
      all_goals refine Stop.mk ?_
      obtain ⟨_, hs_, hat_⟩ := hsu.at (sz := 1) rfl
      refine ⟨⟨by omega, by omega⟩, _, hs_, fun ad had => ?_⟩
      obtain ⟨y, cells, hy, hRy, hGy⟩ := hat_ j (by omega) ad (by first | exact had | (rw [Int.toNat_natCast] at had; exact had))
      clear had hat_ hs_
      obtain ⟨rfl, hy1⟩ := hRy
      have hyr := hrange y (List.mem_of_getElem? hy)
      repeat' ((fail_if_success with_reducible refine Stop.mk ?_); (conv => whnf); with_reducible first | refine br_t ?_ | refine br_f ?_ | refine br_nn ?_ | refine br_ns ?_ | refine br_not ?_ | refine br_d (fun h => ?_) (fun h => ?_) | refine br_e (fun h => ?_) (fun h => ?_) | refine br_n (fun h => ?_) (fun h => ?_) | refine drw_fast (by kernel_rfl) ?_ | refine chk (by kernel_rfl) ?_ | refine stop ?_)
      all_goals refine Stop.mk ?_
      refine ⟨_, hGy 0 _ rfl, ?_⟩
      repeat' ((fail_if_success with_reducible refine Stop.mk ?_); (conv => whnf); first | with_reducible refine br_t ?_ | with_reducible refine br_f ?_ | with_reducible refine br_nn ?_ | with_reducible refine br_ns ?_ | with_reducible refine br_not ?_ | ((with_reducible refine br_d (fun h => ?_) (fun h => ?_)) <;> try (exfalso; omega)) | ((with_reducible refine br_e (fun h => ?_) (fun h => ?_)) <;> try (exfalso; omega)) | ((with_reducible refine br_n (fun h => ?_) (fun h => ?_)) <;> try (exfalso; omega)) | with_reducible refine drw_fast (by kernel_rfl) ?_ | with_reducible refine chk (by kernel_rfl) ?_ | with_reducible refine stop ?_)
      all_goals refine Stop.mk ?_
      rw [hw6]
      refine tell_here ⟨j + 1, by omega, by show (succs t).length - (j + 1) < (succs t).length - j; omega, rfl, rfl, ?_⟩
      refine ⟨?_⟩
      (conv => whnf)
      (repeat' (first | exact trivial | exact .inl rfl | exact .inr rfl | refine And.intro ?_ ?_))
    · rw [hw4, hw5]
      refine call_fn [] (srcTerm_fn _ t (regs + more) (blocks + more)) rfl trivial (by decide) ?_
      rintro sv H' G' ⟨rfl, rfl⟩ -
      refine ⟨Nat.le_of_ble_eq_true rfl, ?_⟩
      rw [hgr1]
      repeat' ((fail_if_success with_reducible refine Stop.mk ?_); (conv => whnf); first | with_reducible refine br_t ?_ | with_reducible refine br_f ?_ | with_reducible refine br_nn ?_ | with_reducible refine br_ns ?_ | with_reducible refine br_not ?_ | ((with_reducible refine br_d (fun h => ?_) (fun h => ?_)) <;> try (exfalso; omega)) | ((with_reducible refine br_e (fun h => ?_) (fun h => ?_)) <;> try (exfalso; omega)) | ((with_reducible refine br_n (fun h => ?_) (fun h => ?_)) <;> try (exfalso; omega)) | with_reducible refine drw_fast (by kernel_rfl) ?_ | with_reducible refine chk (by kernel_rfl) ?_ | with_reducible refine stop ?_)
      all_goals refine Stop.mk ?_
      all_goals try (exfalso; omega)
      refine fin_id hE 0 rfl rfl rfl rfl ⟨congrArg (fun b => SV.v (.bool b)) ?_, rfl⟩
      have hs : succs t = if t.kind = 1 then [t.to_] else if t.kind = 2 then [t.to_, t.els] else [] := rfl
      rcases hz1 with ⟨hk, _⟩ | ⟨hk, _⟩ | hk
      · rw [hs, hk]; rfl
      · rw [hs, hk]; rfl
      · rw [hs, hk]; rfl
set_option maxHeartbeats 8000000 in
theorem sgrows_fn1 (G : Gh) (i : Ins) (t : Trm) (regs blocks more : Int) (e1 : decide (uD i.op) = true) (e2 : decide (uA i.op) = true) (e3 : decide (uB i.op) = false) (e4 : decide (i.op = 1) = false) (hi : i.ok) (ht : t.ok) (h1 : 0 ≤ regs ∧ regs < 65536) (h2 : 0 ≤ blocks ∧ blocks < 65536) (h3 : 0 ≤ more ∧ more < 256) :
    Ct Try.prog 3 [i.sv, t.sv, .v (.int .u16 regs), .v (.int .u16 blocks), .v (.int .u8 more)] [] G fun sv H' G' => sv = .v (.bool true) ∧ H' = [] := by
  have hw1 : IntKind.i64.wrap regs = regs := i64_in (by omega) (by omega)
  have hw2 : IntKind.i64.wrap blocks = blocks := i64_in (by omega) (by omega)
  have hw3 : IntKind.i64.wrap more = more := i64_in (by omega) (by omega)
  have hw4 : IntKind.i64.wrap (regs + more) = regs + more := i64_in (by omega) (by omega)
  have hw5 : IntKind.i64.wrap (blocks + more) = blocks + more := i64_in (by omega) (by omega)
  have hz := @eTrm_zero t regs blocks
  have hgr := @eTrm_grow t regs blocks more h3.1
  refine fn_of follows [] Try.func3 rfl rfl fun E hE => ?_
  repeat' ((fail_if_success with_reducible refine Stop.mk ?_); (conv => whnf); with_reducible first | refine br_t ?_ | refine br_f ?_ | refine br_nn ?_ | refine br_ns ?_ | refine br_not ?_ | refine br_d (fun h => ?_) (fun h => ?_) | refine br_e (fun h => ?_) (fun h => ?_) | refine br_n (fun h => ?_) (fun h => ?_) | refine drw_fast (by kernel_rfl) ?_ | refine chk (by kernel_rfl) ?_ | refine stop ?_)
  all_goals refine Stop.mk ?_
  refine call_fn [] (awake07_fn _) rfl trivial (by decide) ?_
  rintro sv H' G' ⟨rfl, rfl⟩ -
  refine ⟨Nat.le_of_ble_eq_true rfl, ?_⟩
  repeat' ((fail_if_success with_reducible refine Stop.mk ?_); (conv => whnf); with_reducible first | refine br_t ?_ | refine br_f ?_ | refine br_nn ?_ | refine br_ns ?_ | refine br_not ?_ | refine br_d (fun h => ?_) (fun h => ?_) | refine br_e (fun h => ?_) (fun h => ?_) | refine br_n (fun h => ?_) (fun h => ?_) | refine drw_fast (by kernel_rfl) ?_ | refine chk (by kernel_rfl) ?_ | refine stop ?_)
  all_goals refine Stop.mk ?_
  refine call_fn [] (of_fn _ i.op) rfl trivial (by decide) ?_
  rintro sv H' G' ⟨rfl, rfl, rfl⟩ -
  refine ⟨Nat.le_of_ble_eq_true rfl, ?_⟩
  rw [hw1, hw2, hw3]
  all_goals
    have hzi := @eIns_zero i regs more _ _ _ _ e1 e2 e3 e4 h3.1
    simp only [Bool.false_eq_true, false_implies, true_implies, true_and] at hzi
    rw [e1, e2, e3]
    repeat' ((fail_if_success with_reducible refine Stop.mk ?_); (conv => whnf); with_reducible first | refine br_t ?_ | refine br_f ?_ | refine br_nn ?_ | refine br_ns ?_ | refine br_not ?_ | refine br_d (fun h => ?_) (fun h => ?_) | refine br_e (fun h => ?_) (fun h => ?_) | refine br_n (fun h => ?_) (fun h => ?_) | refine drw_fast (by kernel_rfl) ?_ | refine chk (by kernel_rfl) ?_ | refine stop ?_)
    all_goals refine Stop.mk ?_
    refine call_fn [] (srcInstr_fn _ i regs) rfl trivial (by decide) ?_
    rintro sv H' G' ⟨rfl, rfl⟩ -
    refine ⟨Nat.le_of_ble_eq_true rfl, ?_⟩
    generalize eIns regs i = e at *
    repeat' ((fail_if_success with_reducible refine Stop.mk ?_); (conv => whnf); with_reducible first | refine br_t ?_ | refine br_f ?_ | refine br_nn ?_ | refine br_ns ?_ | refine br_not ?_ | refine br_d (fun h => ?_) (fun h => ?_) | refine br_e (fun h => ?_) (fun h => ?_) | refine br_n (fun h => ?_) (fun h => ?_) | refine drw_fast (by kernel_rfl) ?_ | refine chk (by kernel_rfl) ?_ | refine stop ?_)
    all_goals refine Stop.mk ?_
  all_goals try
    rw [hw4]
    obtain ⟨hzi1, hzi2⟩ := hzi (by omega)
    refine call_fn [] (srcInstr_fn _ i (regs + more)) rfl trivial (by decide) ?_
    rintro sv H' G' ⟨rfl, rfl⟩ -
    refine ⟨Nat.le_of_ble_eq_true rfl, ?_⟩
    rw [hzi2]
    repeat' ((fail_if_success with_reducible refine Stop.mk ?_); (conv => whnf); first | with_reducible refine br_t ?_ | with_reducible refine br_f ?_ | with_reducible refine br_nn ?_ | with_reducible refine br_ns ?_ | with_reducible refine br_not ?_ | ((with_reducible refine br_d (fun h => ?_) (fun h => ?_)) <;> try (exfalso; omega)) | ((with_reducible refine br_e (fun h => ?_) (fun h => ?_)) <;> try (exfalso; omega)) | ((with_reducible refine br_n (fun h => ?_) (fun h => ?_)) <;> try (exfalso; omega)) | with_reducible refine drw_fast (by kernel_rfl) ?_ | with_reducible refine chk (by kernel_rfl) ?_ | with_reducible refine stop ?_)
    all_goals refine Stop.mk ?_
  all_goals try (exfalso; omega)
  all_goals
    refine call_fn [] (srcTerm_fn _ t regs blocks) rfl trivial (by decide) ?_
    rintro sv H' G' ⟨rfl, rfl⟩ -
    refine ⟨Nat.le_of_ble_eq_true rfl, ?_⟩
    generalize eTrm regs blocks t = et at *
    repeat' ((fail_if_success with_reducible refine Stop.mk ?_); (conv => whnf); with_reducible first | refine br_t ?_ | refine br_f ?_ | refine br_nn ?_ | refine br_ns ?_ | refine br_not ?_ | refine br_d (fun h => ?_) (fun h => ?_) | refine br_e (fun h => ?_) (fun h => ?_) | refine br_n (fun h => ?_) (fun h => ?_) | refine drw_fast (by kernel_rfl) ?_ | refine chk (by kernel_rfl) ?_ | refine stop ?_)
    all_goals refine Stop.mk ?_
  all_goals try exact fin_id hE 0 rfl rfl rfl rfl ⟨rfl, rfl⟩
  all_goals
    have hz1 := hz (by omega)
    have hgr1 := hgr (by omega)
    refine call_fn [] (srcSuccs_fn _ t ht) rfl trivial (by decide) ?_
    rintro sv H' G' ⟨⟨A1, c1, rfl, hsu⟩, rfl⟩ -
    refine ⟨Nat.le_of_ble_eq_true rfl, ?_⟩
    repeat' ((fail_if_success with_reducible refine Stop.mk ?_); (conv => whnf); with_reducible first | refine br_t ?_ | refine br_f ?_ | refine br_nn ?_ | refine br_ns ?_ | refine br_not ?_ | refine br_d (fun h => ?_) (fun h => ?_) | refine br_e (fun h => ?_) (fun h => ?_) | refine br_n (fun h => ?_) (fun h => ?_) | refine drw_fast (by kernel_rfl) ?_ | refine chk (by kernel_rfl) ?_ | refine stop ?_)
    all_goals refine Stop.mk ?_
  all_goals clear hz hgr hzi
  all_goals
    have hlen : (succs t).length ≤ 2 := by unfold succs; (repeat' split) <;> simp
    have hrange : ∀ x ∈ succs t, 0 ≤ x ∧ x < blocks := by
      intro x hx
      unfold succs at hx
      split at hx
      · simp at hx; omega
      · split at hx
        · simp at hx; omega
        · simp at hx
    refine loop_gc hE [0, 1] rfl rfl ?_
    (conv => whnf)
    refine loop_vars follows [] (α := Nat) (fun j => [(17, .v (.int .i64 j))]) (fun _ => [.cells 23 [.v (.int .i64 i.op), .v (.int .i64 i.d), .v (.int .i64 i.a), .v (.int .i64 i.b), .v (.int .i64 i.imm)], .cells 25 [.v (.int .i64 t.kind), .v (.int .i64 t.a), .v (.int .i64 t.to_), .v (.int .i64 t.els)]]) (fun _ => _) (fun j => j ≤ (succs t).length) (fun j => (succs t).length - j) 0
      (Nat.zero_le _) rfl rfl ?_ ?_
    ·
      refine ⟨?_⟩
      (conv => whnf)
      (repeat' (first | exact trivial | exact .inl rfl | exact .inr rfl | refine And.intro ?_ ?_))
    intro j hj
    have hw6 : IntKind.i64.wrap ((j : Int) + 1) = ((j + 1 : Nat) : Int) := by rw [i64_in (by omega) (by omega)]; simp
    repeat' ((fail_if_success with_reducible refine Stop.mk ?_); (conv => whnf); with_reducible first | refine br_t ?_ | refine br_f ?_ | refine br_nn ?_ | refine br_ns ?_ | refine br_not ?_ | refine br_d (fun h => ?_) (fun h => ?_) | refine br_e (fun h => ?_) (fun h => ?_) | refine br_n (fun h => ?_) (fun h => ?_) | refine drw_fast (by kernel_rfl) ?_ | refine chk (by kernel_rfl) ?_ | refine stop ?_)
    all_goals refine Stop.mk ?_
    ·
      obtain ⟨_, hs_, hat_⟩ := hsu.at (sz := 1) rfl
      refine ⟨⟨by omega, by omega⟩, _, hs_, fun ad had => ?_⟩
      obtain ⟨x, cells, hx, hRx, hGx⟩ := hat_ j (by omega) ad (by first | exact had | (rw [Int.toNat_natCast] at had; exact had))
      clear had hat_ hs_
      obtain ⟨rfl, hx1⟩ := hRx
      have hxr := hrange x (List.mem_of_getElem? hx)
      repeat' ((fail_if_success with_reducible refine Stop.mk ?_); (conv => whnf); with_reducible first | refine br_t ?_ | refine br_f ?_ | refine br_nn ?_ | refine br_ns ?_ | refine br_not ?_ | refine br_d (fun h => ?_) (fun h => ?_) | refine br_e (fun h => ?_) (fun h => ?_) | refine br_n (fun h => ?_) (fun h => ?_) | refine drw_fast (by kernel_rfl) ?_ | refine chk (by kernel_rfl) ?_ | refine stop ?_)
      all_goals refine Stop.mk ?_
      refine ⟨_, hGx 0 _ rfl, ?_⟩
      repeat' ((fail_if_success with_reducible refine Stop.mk ?_); (conv => whnf); first | with_reducible refine br_t ?_ | with_reducible refine br_f ?_ | with_reducible refine br_nn ?_ | with_reducible refine br_ns ?_ | with_reducible refine br_not ?_ | ((with_reducible refine br_d (fun h => ?_) (fun h => ?_)) <;> try (exfalso; omega)) | ((with_reducible refine br_e (fun h => ?_) (fun h => ?_)) <;> try (exfalso; omega)) | ((with_reducible refine br_n (fun h => ?_) (fun h => ?_)) <;> try (exfalso; omega)) | with_reducible refine drw_fast (by kernel_rfl) ?_ | with_reducible refine chk (by kernel_rfl) ?_ | with_reducible refine stop ?_)
      all_goals refine Stop.mk ?_
      obtain ⟨_, hs_, hat_⟩ := hsu.at (sz := 1) rfl
      refine ⟨⟨by omega, by omega⟩, _, hs_, fun ad had => ?_⟩
      obtain ⟨y, cells, hy, hRy, hGy⟩ := hat_ j (by omega) ad (by first | exact had | (rw [Int.toNat_natCast] at had; exact had))
      clear had hat_ hs_
      obtain ⟨rfl, hy1⟩ := hRy
      have hyr := hrange y (List.mem_of_getElem? hy)
      repeat' ((fail_if_success with_reducible refine Stop.mk ?_); (conv => whnf); with_reducible first | refine br_t ?_ | refine br_f ?_ | refine br_nn ?_ | refine br_ns ?_ | refine br_not ?_ | refine br_d (fun h => ?_) (fun h => ?_) | refine br_e (fun h => ?_) (fun h => ?_) | refine br_n (fun h => ?_) (fun h => ?_) | refine drw_fast (by kernel_rfl) ?_ | refine chk (by kernel_rfl) ?_ | refine stop ?_)
      all_goals refine Stop.mk ?_
      refine ⟨_, hGy 0 _ rfl, ?_⟩
      repeat' ((fail_if_success with_reducible refine Stop.mk ?_); (conv => whnf); first | with_reducible refine br_t ?_ | with_reducible refine br_f ?_ | with_reducible refine br_nn ?_ | with_reducible refine br_ns ?_ | with_reducible refine br_not ?_ | ((with_reducible refine br_d (fun h => ?_) (fun h => ?_)) <;> try (exfalso; omega)) | ((with_reducible refine br_e (fun h => ?_) (fun h => ?_)) <;> try (exfalso; omega)) | ((with_reducible refine br_n (fun h => ?_) (fun h => ?_)) <;> try (exfalso; omega)) | with_reducible refine drw_fast (by kernel_rfl) ?_ | with_reducible refine chk (by kernel_rfl) ?_ | with_reducible refine stop ?_)
      all_goals refine Stop.mk ?_
      rw [hw6]
      refine tell_here ⟨j + 1, by omega, by show (succs t).length - (j + 1) < (succs t).length - j; omega, rfl, rfl, ?_⟩
      refine ⟨?_⟩
      (conv => whnf)
      (repeat' (first | exact trivial | exact .inl rfl | exact .inr rfl | refine And.intro ?_ ?_))
    · rw [hw4, hw5]
      refine call_fn [] (srcTerm_fn _ t (regs + more) (blocks + more)) rfl trivial (by decide) ?_
      rintro sv H' G' ⟨rfl, rfl⟩ -
      refine ⟨Nat.le_of_ble_eq_true rfl, ?_⟩
      rw [hgr1]
      repeat' ((fail_if_success with_reducible refine Stop.mk ?_); (conv => whnf); first | with_reducible refine br_t ?_ | with_reducible refine br_f ?_ | with_reducible refine br_nn ?_ | with_reducible refine br_ns ?_ | with_reducible refine br_not ?_ | ((with_reducible refine br_d (fun h => ?_) (fun h => ?_)) <;> try (exfalso; omega)) | ((with_reducible refine br_e (fun h => ?_) (fun h => ?_)) <;> try (exfalso; omega)) | ((with_reducible refine br_n (fun h => ?_) (fun h => ?_)) <;> try (exfalso; omega)) | with_reducible refine drw_fast (by kernel_rfl) ?_ | with_reducible refine chk (by kernel_rfl) ?_ | with_reducible refine stop ?_)
      all_goals refine Stop.mk ?_
      all_goals try (exfalso; omega)
      refine fin_id hE 0 rfl rfl rfl rfl ⟨congrArg (fun b => SV.v (.bool b)) ?_, rfl⟩
      have hs : succs t = if t.kind = 1 then [t.to_] else if t.kind = 2 then [t.to_, t.els] else [] := rfl
      rcases hz1 with ⟨hk, _⟩ | ⟨hk, _⟩ | hk
      · rw [hs, hk]; rfl
      · rw [hs, hk]; rfl
      · rw [hs, hk]; rfl
set_option maxHeartbeats 8000000 in
theorem sgrows_fn2 (G : Gh) (i : Ins) (t : Trm) (regs blocks more : Int) (e1 : decide (uD i.op) = true) (e2 : decide (uA i.op) = true) (e3 : decide (uB i.op) = true) (e4 : decide (i.op = 1) = false) (hi : i.ok) (ht : t.ok) (h1 : 0 ≤ regs ∧ regs < 65536) (h2 : 0 ≤ blocks ∧ blocks < 65536) (h3 : 0 ≤ more ∧ more < 256) :
    Ct Try.prog 3 [i.sv, t.sv, .v (.int .u16 regs), .v (.int .u16 blocks), .v (.int .u8 more)] [] G fun sv H' G' => sv = .v (.bool true) ∧ H' = [] := by
  have hw1 : IntKind.i64.wrap regs = regs := i64_in (by omega) (by omega)
  have hw2 : IntKind.i64.wrap blocks = blocks := i64_in (by omega) (by omega)
  have hw3 : IntKind.i64.wrap more = more := i64_in (by omega) (by omega)
  have hw4 : IntKind.i64.wrap (regs + more) = regs + more := i64_in (by omega) (by omega)
  have hw5 : IntKind.i64.wrap (blocks + more) = blocks + more := i64_in (by omega) (by omega)
  have hz := @eTrm_zero t regs blocks
  have hgr := @eTrm_grow t regs blocks more h3.1
  refine fn_of follows [] Try.func3 rfl rfl fun E hE => ?_
  repeat' ((fail_if_success with_reducible refine Stop.mk ?_); (conv => whnf); with_reducible first | refine br_t ?_ | refine br_f ?_ | refine br_nn ?_ | refine br_ns ?_ | refine br_not ?_ | refine br_d (fun h => ?_) (fun h => ?_) | refine br_e (fun h => ?_) (fun h => ?_) | refine br_n (fun h => ?_) (fun h => ?_) | refine drw_fast (by kernel_rfl) ?_ | refine chk (by kernel_rfl) ?_ | refine stop ?_)
  all_goals refine Stop.mk ?_
  refine call_fn [] (awake07_fn _) rfl trivial (by decide) ?_
  rintro sv H' G' ⟨rfl, rfl⟩ -
  refine ⟨Nat.le_of_ble_eq_true rfl, ?_⟩
  repeat' ((fail_if_success with_reducible refine Stop.mk ?_); (conv => whnf); with_reducible first | refine br_t ?_ | refine br_f ?_ | refine br_nn ?_ | refine br_ns ?_ | refine br_not ?_ | refine br_d (fun h => ?_) (fun h => ?_) | refine br_e (fun h => ?_) (fun h => ?_) | refine br_n (fun h => ?_) (fun h => ?_) | refine drw_fast (by kernel_rfl) ?_ | refine chk (by kernel_rfl) ?_ | refine stop ?_)
  all_goals refine Stop.mk ?_
  refine call_fn [] (of_fn _ i.op) rfl trivial (by decide) ?_
  rintro sv H' G' ⟨rfl, rfl, rfl⟩ -
  refine ⟨Nat.le_of_ble_eq_true rfl, ?_⟩
  rw [hw1, hw2, hw3]
  all_goals
    have hzi := @eIns_zero i regs more _ _ _ _ e1 e2 e3 e4 h3.1
    simp only [Bool.false_eq_true, false_implies, true_implies, true_and] at hzi
    rw [e1, e2, e3]
    repeat' ((fail_if_success with_reducible refine Stop.mk ?_); (conv => whnf); with_reducible first | refine br_t ?_ | refine br_f ?_ | refine br_nn ?_ | refine br_ns ?_ | refine br_not ?_ | refine br_d (fun h => ?_) (fun h => ?_) | refine br_e (fun h => ?_) (fun h => ?_) | refine br_n (fun h => ?_) (fun h => ?_) | refine drw_fast (by kernel_rfl) ?_ | refine chk (by kernel_rfl) ?_ | refine stop ?_)
    all_goals refine Stop.mk ?_
    refine call_fn [] (srcInstr_fn _ i regs) rfl trivial (by decide) ?_
    rintro sv H' G' ⟨rfl, rfl⟩ -
    refine ⟨Nat.le_of_ble_eq_true rfl, ?_⟩
    generalize eIns regs i = e at *
    repeat' ((fail_if_success with_reducible refine Stop.mk ?_); (conv => whnf); with_reducible first | refine br_t ?_ | refine br_f ?_ | refine br_nn ?_ | refine br_ns ?_ | refine br_not ?_ | refine br_d (fun h => ?_) (fun h => ?_) | refine br_e (fun h => ?_) (fun h => ?_) | refine br_n (fun h => ?_) (fun h => ?_) | refine drw_fast (by kernel_rfl) ?_ | refine chk (by kernel_rfl) ?_ | refine stop ?_)
    all_goals refine Stop.mk ?_
  all_goals try
    rw [hw4]
    obtain ⟨hzi1, hzi2⟩ := hzi (by omega)
    refine call_fn [] (srcInstr_fn _ i (regs + more)) rfl trivial (by decide) ?_
    rintro sv H' G' ⟨rfl, rfl⟩ -
    refine ⟨Nat.le_of_ble_eq_true rfl, ?_⟩
    rw [hzi2]
    repeat' ((fail_if_success with_reducible refine Stop.mk ?_); (conv => whnf); first | with_reducible refine br_t ?_ | with_reducible refine br_f ?_ | with_reducible refine br_nn ?_ | with_reducible refine br_ns ?_ | with_reducible refine br_not ?_ | ((with_reducible refine br_d (fun h => ?_) (fun h => ?_)) <;> try (exfalso; omega)) | ((with_reducible refine br_e (fun h => ?_) (fun h => ?_)) <;> try (exfalso; omega)) | ((with_reducible refine br_n (fun h => ?_) (fun h => ?_)) <;> try (exfalso; omega)) | with_reducible refine drw_fast (by kernel_rfl) ?_ | with_reducible refine chk (by kernel_rfl) ?_ | with_reducible refine stop ?_)
    all_goals refine Stop.mk ?_
  all_goals try (exfalso; omega)
  all_goals
    refine call_fn [] (srcTerm_fn _ t regs blocks) rfl trivial (by decide) ?_
    rintro sv H' G' ⟨rfl, rfl⟩ -
    refine ⟨Nat.le_of_ble_eq_true rfl, ?_⟩
    generalize eTrm regs blocks t = et at *
    repeat' ((fail_if_success with_reducible refine Stop.mk ?_); (conv => whnf); with_reducible first | refine br_t ?_ | refine br_f ?_ | refine br_nn ?_ | refine br_ns ?_ | refine br_not ?_ | refine br_d (fun h => ?_) (fun h => ?_) | refine br_e (fun h => ?_) (fun h => ?_) | refine br_n (fun h => ?_) (fun h => ?_) | refine drw_fast (by kernel_rfl) ?_ | refine chk (by kernel_rfl) ?_ | refine stop ?_)
    all_goals refine Stop.mk ?_
  all_goals try exact fin_id hE 0 rfl rfl rfl rfl ⟨rfl, rfl⟩
  all_goals
    have hz1 := hz (by omega)
    have hgr1 := hgr (by omega)
    refine call_fn [] (srcSuccs_fn _ t ht) rfl trivial (by decide) ?_
    rintro sv H' G' ⟨⟨A1, c1, rfl, hsu⟩, rfl⟩ -
    refine ⟨Nat.le_of_ble_eq_true rfl, ?_⟩
    repeat' ((fail_if_success with_reducible refine Stop.mk ?_); (conv => whnf); with_reducible first | refine br_t ?_ | refine br_f ?_ | refine br_nn ?_ | refine br_ns ?_ | refine br_not ?_ | refine br_d (fun h => ?_) (fun h => ?_) | refine br_e (fun h => ?_) (fun h => ?_) | refine br_n (fun h => ?_) (fun h => ?_) | refine drw_fast (by kernel_rfl) ?_ | refine chk (by kernel_rfl) ?_ | refine stop ?_)
    all_goals refine Stop.mk ?_
  all_goals clear hz hgr hzi
  all_goals
    have hlen : (succs t).length ≤ 2 := by unfold succs; (repeat' split) <;> simp
    have hrange : ∀ x ∈ succs t, 0 ≤ x ∧ x < blocks := by
      intro x hx
      unfold succs at hx
      split at hx
      · simp at hx; omega
      · split at hx
        · simp at hx; omega
        · simp at hx
    refine loop_gc hE [0, 1] rfl rfl ?_
    (conv => whnf)
    refine loop_vars follows [] (α := Nat) (fun j => [(17, .v (.int .i64 j))]) (fun _ => [.cells 23 [.v (.int .i64 i.op), .v (.int .i64 i.d), .v (.int .i64 i.a), .v (.int .i64 i.b), .v (.int .i64 i.imm)], .cells 25 [.v (.int .i64 t.kind), .v (.int .i64 t.a), .v (.int .i64 t.to_), .v (.int .i64 t.els)]]) (fun _ => _) (fun j => j ≤ (succs t).length) (fun j => (succs t).length - j) 0
      (Nat.zero_le _) rfl rfl ?_ ?_
    ·
      refine ⟨?_⟩
      (conv => whnf)
      (repeat' (first | exact trivial | exact .inl rfl | exact .inr rfl | refine And.intro ?_ ?_))
    intro j hj
    have hw6 : IntKind.i64.wrap ((j : Int) + 1) = ((j + 1 : Nat) : Int) := by rw [i64_in (by omega) (by omega)]; simp
    repeat' ((fail_if_success with_reducible refine Stop.mk ?_); (conv => whnf); with_reducible first | refine br_t ?_ | refine br_f ?_ | refine br_nn ?_ | refine br_ns ?_ | refine br_not ?_ | refine br_d (fun h => ?_) (fun h => ?_) | refine br_e (fun h => ?_) (fun h => ?_) | refine br_n (fun h => ?_) (fun h => ?_) | refine drw_fast (by kernel_rfl) ?_ | refine chk (by kernel_rfl) ?_ | refine stop ?_)
    all_goals refine Stop.mk ?_
    ·
      obtain ⟨_, hs_, hat_⟩ := hsu.at (sz := 1) rfl
      refine ⟨⟨by omega, by omega⟩, _, hs_, fun ad had => ?_⟩
      obtain ⟨x, cells, hx, hRx, hGx⟩ := hat_ j (by omega) ad (by first | exact had | (rw [Int.toNat_natCast] at had; exact had))
      clear had hat_ hs_
      obtain ⟨rfl, hx1⟩ := hRx
      have hxr := hrange x (List.mem_of_getElem? hx)
      repeat' ((fail_if_success with_reducible refine Stop.mk ?_); (conv => whnf); with_reducible first | refine br_t ?_ | refine br_f ?_ | refine br_nn ?_ | refine br_ns ?_ | refine br_not ?_ | refine br_d (fun h => ?_) (fun h => ?_) | refine br_e (fun h => ?_) (fun h => ?_) | refine br_n (fun h => ?_) (fun h => ?_) | refine drw_fast (by kernel_rfl) ?_ | refine chk (by kernel_rfl) ?_ | refine stop ?_)
      all_goals refine Stop.mk ?_
      refine ⟨_, hGx 0 _ rfl, ?_⟩
      repeat' ((fail_if_success with_reducible refine Stop.mk ?_); (conv => whnf); first | with_reducible refine br_t ?_ | with_reducible refine br_f ?_ | with_reducible refine br_nn ?_ | with_reducible refine br_ns ?_ | with_reducible refine br_not ?_ | ((with_reducible refine br_d (fun h => ?_) (fun h => ?_)) <;> try (exfalso; omega)) | ((with_reducible refine br_e (fun h => ?_) (fun h => ?_)) <;> try (exfalso; omega)) | ((with_reducible refine br_n (fun h => ?_) (fun h => ?_)) <;> try (exfalso; omega)) | with_reducible refine drw_fast (by kernel_rfl) ?_ | with_reducible refine chk (by kernel_rfl) ?_ | with_reducible refine stop ?_)
      all_goals refine Stop.mk ?_
      obtain ⟨_, hs_, hat_⟩ := hsu.at (sz := 1) rfl
      refine ⟨⟨by omega, by omega⟩, _, hs_, fun ad had => ?_⟩
      obtain ⟨y, cells, hy, hRy, hGy⟩ := hat_ j (by omega) ad (by first | exact had | (rw [Int.toNat_natCast] at had; exact had))
      clear had hat_ hs_
      obtain ⟨rfl, hy1⟩ := hRy
      have hyr := hrange y (List.mem_of_getElem? hy)
      repeat' ((fail_if_success with_reducible refine Stop.mk ?_); (conv => whnf); with_reducible first | refine br_t ?_ | refine br_f ?_ | refine br_nn ?_ | refine br_ns ?_ | refine br_not ?_ | refine br_d (fun h => ?_) (fun h => ?_) | refine br_e (fun h => ?_) (fun h => ?_) | refine br_n (fun h => ?_) (fun h => ?_) | refine drw_fast (by kernel_rfl) ?_ | refine chk (by kernel_rfl) ?_ | refine stop ?_)
      all_goals refine Stop.mk ?_
      refine ⟨_, hGy 0 _ rfl, ?_⟩
      repeat' ((fail_if_success with_reducible refine Stop.mk ?_); (conv => whnf); first | with_reducible refine br_t ?_ | with_reducible refine br_f ?_ | with_reducible refine br_nn ?_ | with_reducible refine br_ns ?_ | with_reducible refine br_not ?_ | ((with_reducible refine br_d (fun h => ?_) (fun h => ?_)) <;> try (exfalso; omega)) | ((with_reducible refine br_e (fun h => ?_) (fun h => ?_)) <;> try (exfalso; omega)) | ((with_reducible refine br_n (fun h => ?_) (fun h => ?_)) <;> try (exfalso; omega)) | with_reducible refine drw_fast (by kernel_rfl) ?_ | with_reducible refine chk (by kernel_rfl) ?_ | with_reducible refine stop ?_)
      all_goals refine Stop.mk ?_
      rw [hw6]
      refine tell_here ⟨j + 1, by omega, by show (succs t).length - (j + 1) < (succs t).length - j; omega, rfl, rfl, ?_⟩
      refine ⟨?_⟩
      (conv => whnf)
      (repeat' (first | exact trivial | exact .inl rfl | exact .inr rfl | refine And.intro ?_ ?_))
    · rw [hw4, hw5]
      refine call_fn [] (srcTerm_fn _ t (regs + more) (blocks + more)) rfl trivial (by decide) ?_
      rintro sv H' G' ⟨rfl, rfl⟩ -
      refine ⟨Nat.le_of_ble_eq_true rfl, ?_⟩
      rw [hgr1]
      repeat' ((fail_if_success with_reducible refine Stop.mk ?_); (conv => whnf); first | with_reducible refine br_t ?_ | with_reducible refine br_f ?_ | with_reducible refine br_nn ?_ | with_reducible refine br_ns ?_ | with_reducible refine br_not ?_ | ((with_reducible refine br_d (fun h => ?_) (fun h => ?_)) <;> try (exfalso; omega)) | ((with_reducible refine br_e (fun h => ?_) (fun h => ?_)) <;> try (exfalso; omega)) | ((with_reducible refine br_n (fun h => ?_) (fun h => ?_)) <;> try (exfalso; omega)) | with_reducible refine drw_fast (by kernel_rfl) ?_ | with_reducible refine chk (by kernel_rfl) ?_ | with_reducible refine stop ?_)
      all_goals refine Stop.mk ?_
      all_goals try (exfalso; omega)
      refine fin_id hE 0 rfl rfl rfl rfl ⟨congrArg (fun b => SV.v (.bool b)) ?_, rfl⟩
      have hs : succs t = if t.kind = 1 then [t.to_] else if t.kind = 2 then [t.to_, t.els] else [] := rfl
      rcases hz1 with ⟨hk, _⟩ | ⟨hk, _⟩ | hk
      · rw [hs, hk]; rfl
      · rw [hs, hk]; rfl
      · rw [hs, hk]; rfl
set_option maxHeartbeats 8000000 in
theorem sgrows_fn3 (G : Gh) (i : Ins) (t : Trm) (regs blocks more : Int) (e1 : decide (uD i.op) = false) (e2 : decide (uA i.op) = true) (e3 : decide (uB i.op) = false) (e4 : decide (i.op = 1) = false) (hi : i.ok) (ht : t.ok) (h1 : 0 ≤ regs ∧ regs < 65536) (h2 : 0 ≤ blocks ∧ blocks < 65536) (h3 : 0 ≤ more ∧ more < 256) :
    Ct Try.prog 3 [i.sv, t.sv, .v (.int .u16 regs), .v (.int .u16 blocks), .v (.int .u8 more)] [] G fun sv H' G' => sv = .v (.bool true) ∧ H' = [] := by
  have hw1 : IntKind.i64.wrap regs = regs := i64_in (by omega) (by omega)
  have hw2 : IntKind.i64.wrap blocks = blocks := i64_in (by omega) (by omega)
  have hw3 : IntKind.i64.wrap more = more := i64_in (by omega) (by omega)
  have hw4 : IntKind.i64.wrap (regs + more) = regs + more := i64_in (by omega) (by omega)
  have hw5 : IntKind.i64.wrap (blocks + more) = blocks + more := i64_in (by omega) (by omega)
  have hz := @eTrm_zero t regs blocks
  have hgr := @eTrm_grow t regs blocks more h3.1
  refine fn_of follows [] Try.func3 rfl rfl fun E hE => ?_
  repeat' ((fail_if_success with_reducible refine Stop.mk ?_); (conv => whnf); with_reducible first | refine br_t ?_ | refine br_f ?_ | refine br_nn ?_ | refine br_ns ?_ | refine br_not ?_ | refine br_d (fun h => ?_) (fun h => ?_) | refine br_e (fun h => ?_) (fun h => ?_) | refine br_n (fun h => ?_) (fun h => ?_) | refine drw_fast (by kernel_rfl) ?_ | refine chk (by kernel_rfl) ?_ | refine stop ?_)
  all_goals refine Stop.mk ?_
  refine call_fn [] (awake07_fn _) rfl trivial (by decide) ?_
  rintro sv H' G' ⟨rfl, rfl⟩ -
  refine ⟨Nat.le_of_ble_eq_true rfl, ?_⟩
  repeat' ((fail_if_success with_reducible refine Stop.mk ?_); (conv => whnf); with_reducible first | refine br_t ?_ | refine br_f ?_ | refine br_nn ?_ | refine br_ns ?_ | refine br_not ?_ | refine br_d (fun h => ?_) (fun h => ?_) | refine br_e (fun h => ?_) (fun h => ?_) | refine br_n (fun h => ?_) (fun h => ?_) | refine drw_fast (by kernel_rfl) ?_ | refine chk (by kernel_rfl) ?_ | refine stop ?_)
  all_goals refine Stop.mk ?_
  refine call_fn [] (of_fn _ i.op) rfl trivial (by decide) ?_
  rintro sv H' G' ⟨rfl, rfl, rfl⟩ -
  refine ⟨Nat.le_of_ble_eq_true rfl, ?_⟩
  rw [hw1, hw2, hw3]
  all_goals
    have hzi := @eIns_zero i regs more _ _ _ _ e1 e2 e3 e4 h3.1
    simp only [Bool.false_eq_true, false_implies, true_implies, true_and] at hzi
    rw [e1, e2, e3]
    repeat' ((fail_if_success with_reducible refine Stop.mk ?_); (conv => whnf); with_reducible first | refine br_t ?_ | refine br_f ?_ | refine br_nn ?_ | refine br_ns ?_ | refine br_not ?_ | refine br_d (fun h => ?_) (fun h => ?_) | refine br_e (fun h => ?_) (fun h => ?_) | refine br_n (fun h => ?_) (fun h => ?_) | refine drw_fast (by kernel_rfl) ?_ | refine chk (by kernel_rfl) ?_ | refine stop ?_)
    all_goals refine Stop.mk ?_
    refine call_fn [] (srcInstr_fn _ i regs) rfl trivial (by decide) ?_
    rintro sv H' G' ⟨rfl, rfl⟩ -
    refine ⟨Nat.le_of_ble_eq_true rfl, ?_⟩
    generalize eIns regs i = e at *
    repeat' ((fail_if_success with_reducible refine Stop.mk ?_); (conv => whnf); with_reducible first | refine br_t ?_ | refine br_f ?_ | refine br_nn ?_ | refine br_ns ?_ | refine br_not ?_ | refine br_d (fun h => ?_) (fun h => ?_) | refine br_e (fun h => ?_) (fun h => ?_) | refine br_n (fun h => ?_) (fun h => ?_) | refine drw_fast (by kernel_rfl) ?_ | refine chk (by kernel_rfl) ?_ | refine stop ?_)
    all_goals refine Stop.mk ?_
  all_goals try
    rw [hw4]
    obtain ⟨hzi1, hzi2⟩ := hzi (by omega)
    refine call_fn [] (srcInstr_fn _ i (regs + more)) rfl trivial (by decide) ?_
    rintro sv H' G' ⟨rfl, rfl⟩ -
    refine ⟨Nat.le_of_ble_eq_true rfl, ?_⟩
    rw [hzi2]
    repeat' ((fail_if_success with_reducible refine Stop.mk ?_); (conv => whnf); first | with_reducible refine br_t ?_ | with_reducible refine br_f ?_ | with_reducible refine br_nn ?_ | with_reducible refine br_ns ?_ | with_reducible refine br_not ?_ | ((with_reducible refine br_d (fun h => ?_) (fun h => ?_)) <;> try (exfalso; omega)) | ((with_reducible refine br_e (fun h => ?_) (fun h => ?_)) <;> try (exfalso; omega)) | ((with_reducible refine br_n (fun h => ?_) (fun h => ?_)) <;> try (exfalso; omega)) | with_reducible refine drw_fast (by kernel_rfl) ?_ | with_reducible refine chk (by kernel_rfl) ?_ | with_reducible refine stop ?_)
    all_goals refine Stop.mk ?_
  all_goals try (exfalso; omega)
  all_goals
    refine call_fn [] (srcTerm_fn _ t regs blocks) rfl trivial (by decide) ?_
    rintro sv H' G' ⟨rfl, rfl⟩ -
    refine ⟨Nat.le_of_ble_eq_true rfl, ?_⟩
    generalize eTrm regs blocks t = et at *
    repeat' ((fail_if_success with_reducible refine Stop.mk ?_); (conv => whnf); with_reducible first | refine br_t ?_ | refine br_f ?_ | refine br_nn ?_ | refine br_ns ?_ | refine br_not ?_ | refine br_d (fun h => ?_) (fun h => ?_) | refine br_e (fun h => ?_) (fun h => ?_) | refine br_n (fun h => ?_) (fun h => ?_) | refine drw_fast (by kernel_rfl) ?_ | refine chk (by kernel_rfl) ?_ | refine stop ?_)
    all_goals refine Stop.mk ?_
  all_goals try exact fin_id hE 0 rfl rfl rfl rfl ⟨rfl, rfl⟩
  all_goals
    have hz1 := hz (by omega)
    have hgr1 := hgr (by omega)
    refine call_fn [] (srcSuccs_fn _ t ht) rfl trivial (by decide) ?_
    rintro sv H' G' ⟨⟨A1, c1, rfl, hsu⟩, rfl⟩ -
    refine ⟨Nat.le_of_ble_eq_true rfl, ?_⟩
    repeat' ((fail_if_success with_reducible refine Stop.mk ?_); (conv => whnf); with_reducible first | refine br_t ?_ | refine br_f ?_ | refine br_nn ?_ | refine br_ns ?_ | refine br_not ?_ | refine br_d (fun h => ?_) (fun h => ?_) | refine br_e (fun h => ?_) (fun h => ?_) | refine br_n (fun h => ?_) (fun h => ?_) | refine drw_fast (by kernel_rfl) ?_ | refine chk (by kernel_rfl) ?_ | refine stop ?_)
    all_goals refine Stop.mk ?_
  all_goals clear hz hgr hzi
  all_goals
    have hlen : (succs t).length ≤ 2 := by unfold succs; (repeat' split) <;> simp
    have hrange : ∀ x ∈ succs t, 0 ≤ x ∧ x < blocks := by
      intro x hx
      unfold succs at hx
      split at hx
      · simp at hx; omega
      · split at hx
        · simp at hx; omega
        · simp at hx
    refine loop_gc hE [0, 1] rfl rfl ?_
    (conv => whnf)
    refine loop_vars follows [] (α := Nat) (fun j => [(17, .v (.int .i64 j))]) (fun _ => [.cells 23 [.v (.int .i64 i.op), .v (.int .i64 i.d), .v (.int .i64 i.a), .v (.int .i64 i.b), .v (.int .i64 i.imm)], .cells 25 [.v (.int .i64 t.kind), .v (.int .i64 t.a), .v (.int .i64 t.to_), .v (.int .i64 t.els)]]) (fun _ => _) (fun j => j ≤ (succs t).length) (fun j => (succs t).length - j) 0
      (Nat.zero_le _) rfl rfl ?_ ?_
    ·
      refine ⟨?_⟩
      (conv => whnf)
      (repeat' (first | exact trivial | exact .inl rfl | exact .inr rfl | refine And.intro ?_ ?_))
    intro j hj
    have hw6 : IntKind.i64.wrap ((j : Int) + 1) = ((j + 1 : Nat) : Int) := by rw [i64_in (by omega) (by omega)]; simp
    repeat' ((fail_if_success with_reducible refine Stop.mk ?_); (conv => whnf); with_reducible first | refine br_t ?_ | refine br_f ?_ | refine br_nn ?_ | refine br_ns ?_ | refine br_not ?_ | refine br_d (fun h => ?_) (fun h => ?_) | refine br_e (fun h => ?_) (fun h => ?_) | refine br_n (fun h => ?_) (fun h => ?_) | refine drw_fast (by kernel_rfl) ?_ | refine chk (by kernel_rfl) ?_ | refine stop ?_)
    all_goals refine Stop.mk ?_
    ·
      obtain ⟨_, hs_, hat_⟩ := hsu.at (sz := 1) rfl
      refine ⟨⟨by omega, by omega⟩, _, hs_, fun ad had => ?_⟩
      obtain ⟨x, cells, hx, hRx, hGx⟩ := hat_ j (by omega) ad (by first | exact had | (rw [Int.toNat_natCast] at had; exact had))
      clear had hat_ hs_
      obtain ⟨rfl, hx1⟩ := hRx
      have hxr := hrange x (List.mem_of_getElem? hx)
      repeat' ((fail_if_success with_reducible refine Stop.mk ?_); (conv => whnf); with_reducible first | refine br_t ?_ | refine br_f ?_ | refine br_nn ?_ | refine br_ns ?_ | refine br_not ?_ | refine br_d (fun h => ?_) (fun h => ?_) | refine br_e (fun h => ?_) (fun h => ?_) | refine br_n (fun h => ?_) (fun h => ?_) | refine drw_fast (by kernel_rfl) ?_ | refine chk (by kernel_rfl) ?_ | refine stop ?_)
      all_goals refine Stop.mk ?_
      refine ⟨_, hGx 0 _ rfl, ?_⟩
      repeat' ((fail_if_success with_reducible refine Stop.mk ?_); (conv => whnf); first | with_reducible refine br_t ?_ | with_reducible refine br_f ?_ | with_reducible refine br_nn ?_ | with_reducible refine br_ns ?_ | with_reducible refine br_not ?_ | ((with_reducible refine br_d (fun h => ?_) (fun h => ?_)) <;> try (exfalso; omega)) | ((with_reducible refine br_e (fun h => ?_) (fun h => ?_)) <;> try (exfalso; omega)) | ((with_reducible refine br_n (fun h => ?_) (fun h => ?_)) <;> try (exfalso; omega)) | with_reducible refine drw_fast (by kernel_rfl) ?_ | with_reducible refine chk (by kernel_rfl) ?_ | with_reducible refine stop ?_)
      all_goals refine Stop.mk ?_
      obtain ⟨_, hs_, hat_⟩ := hsu.at (sz := 1) rfl
      refine ⟨⟨by omega, by omega⟩, _, hs_, fun ad had => ?_⟩
      obtain ⟨y, cells, hy, hRy, hGy⟩ := hat_ j (by omega) ad (by first | exact had | (rw [Int.toNat_natCast] at had; exact had))
      clear had hat_ hs_
      obtain ⟨rfl, hy1⟩ := hRy
      have hyr := hrange y (List.mem_of_getElem? hy)
      repeat' ((fail_if_success with_reducible refine Stop.mk ?_); (conv => whnf); with_reducible first | refine br_t ?_ | refine br_f ?_ | refine br_nn ?_ | refine br_ns ?_ | refine br_not ?_ | refine br_d (fun h => ?_) (fun h => ?_) | refine br_e (fun h => ?_) (fun h => ?_) | refine br_n (fun h => ?_) (fun h => ?_) | refine drw_fast (by kernel_rfl) ?_ | refine chk (by kernel_rfl) ?_ | refine stop ?_)
      all_goals refine Stop.mk ?_
      refine ⟨_, hGy 0 _ rfl, ?_⟩
      repeat' ((fail_if_success with_reducible refine Stop.mk ?_); (conv => whnf); first | with_reducible refine br_t ?_ | with_reducible refine br_f ?_ | with_reducible refine br_nn ?_ | with_reducible refine br_ns ?_ | with_reducible refine br_not ?_ | ((with_reducible refine br_d (fun h => ?_) (fun h => ?_)) <;> try (exfalso; omega)) | ((with_reducible refine br_e (fun h => ?_) (fun h => ?_)) <;> try (exfalso; omega)) | ((with_reducible refine br_n (fun h => ?_) (fun h => ?_)) <;> try (exfalso; omega)) | with_reducible refine drw_fast (by kernel_rfl) ?_ | with_reducible refine chk (by kernel_rfl) ?_ | with_reducible refine stop ?_)
      all_goals refine Stop.mk ?_
      rw [hw6]
      refine tell_here ⟨j + 1, by omega, by show (succs t).length - (j + 1) < (succs t).length - j; omega, rfl, rfl, ?_⟩
      refine ⟨?_⟩
      (conv => whnf)
      (repeat' (first | exact trivial | exact .inl rfl | exact .inr rfl | refine And.intro ?_ ?_))
    · rw [hw4, hw5]
      refine call_fn [] (srcTerm_fn _ t (regs + more) (blocks + more)) rfl trivial (by decide) ?_
      rintro sv H' G' ⟨rfl, rfl⟩ -
      refine ⟨Nat.le_of_ble_eq_true rfl, ?_⟩
      rw [hgr1]
      repeat' ((fail_if_success with_reducible refine Stop.mk ?_); (conv => whnf); first | with_reducible refine br_t ?_ | with_reducible refine br_f ?_ | with_reducible refine br_nn ?_ | with_reducible refine br_ns ?_ | with_reducible refine br_not ?_ | ((with_reducible refine br_d (fun h => ?_) (fun h => ?_)) <;> try (exfalso; omega)) | ((with_reducible refine br_e (fun h => ?_) (fun h => ?_)) <;> try (exfalso; omega)) | ((with_reducible refine br_n (fun h => ?_) (fun h => ?_)) <;> try (exfalso; omega)) | with_reducible refine drw_fast (by kernel_rfl) ?_ | with_reducible refine chk (by kernel_rfl) ?_ | with_reducible refine stop ?_)
      all_goals refine Stop.mk ?_
      all_goals try (exfalso; omega)
      refine fin_id hE 0 rfl rfl rfl rfl ⟨congrArg (fun b => SV.v (.bool b)) ?_, rfl⟩
      have hs : succs t = if t.kind = 1 then [t.to_] else if t.kind = 2 then [t.to_, t.els] else [] := rfl
      rcases hz1 with ⟨hk, _⟩ | ⟨hk, _⟩ | hk
      · rw [hs, hk]; rfl
      · rw [hs, hk]; rfl
      · rw [hs, hk]; rfl
set_option maxHeartbeats 8000000 in
theorem sgrows_fn4 (G : Gh) (i : Ins) (t : Trm) (regs blocks more : Int) (e1 : decide (uD i.op) = false) (e2 : decide (uA i.op) = false) (e3 : decide (uB i.op) = false) (e4 : decide (i.op = 1) = false) (hi : i.ok) (ht : t.ok) (h1 : 0 ≤ regs ∧ regs < 65536) (h2 : 0 ≤ blocks ∧ blocks < 65536) (h3 : 0 ≤ more ∧ more < 256) :
    Ct Try.prog 3 [i.sv, t.sv, .v (.int .u16 regs), .v (.int .u16 blocks), .v (.int .u8 more)] [] G fun sv H' G' => sv = .v (.bool true) ∧ H' = [] := by
  have hw1 : IntKind.i64.wrap regs = regs := i64_in (by omega) (by omega)
  have hw2 : IntKind.i64.wrap blocks = blocks := i64_in (by omega) (by omega)
  have hw3 : IntKind.i64.wrap more = more := i64_in (by omega) (by omega)
  have hw4 : IntKind.i64.wrap (regs + more) = regs + more := i64_in (by omega) (by omega)
  have hw5 : IntKind.i64.wrap (blocks + more) = blocks + more := i64_in (by omega) (by omega)
  have hz := @eTrm_zero t regs blocks
  have hgr := @eTrm_grow t regs blocks more h3.1
  refine fn_of follows [] Try.func3 rfl rfl fun E hE => ?_
  repeat' ((fail_if_success with_reducible refine Stop.mk ?_); (conv => whnf); with_reducible first | refine br_t ?_ | refine br_f ?_ | refine br_nn ?_ | refine br_ns ?_ | refine br_not ?_ | refine br_d (fun h => ?_) (fun h => ?_) | refine br_e (fun h => ?_) (fun h => ?_) | refine br_n (fun h => ?_) (fun h => ?_) | refine drw_fast (by kernel_rfl) ?_ | refine chk (by kernel_rfl) ?_ | refine stop ?_)
  all_goals refine Stop.mk ?_
  refine call_fn [] (awake07_fn _) rfl trivial (by decide) ?_
  rintro sv H' G' ⟨rfl, rfl⟩ -
  refine ⟨Nat.le_of_ble_eq_true rfl, ?_⟩
  repeat' ((fail_if_success with_reducible refine Stop.mk ?_); (conv => whnf); with_reducible first | refine br_t ?_ | refine br_f ?_ | refine br_nn ?_ | refine br_ns ?_ | refine br_not ?_ | refine br_d (fun h => ?_) (fun h => ?_) | refine br_e (fun h => ?_) (fun h => ?_) | refine br_n (fun h => ?_) (fun h => ?_) | refine drw_fast (by kernel_rfl) ?_ | refine chk (by kernel_rfl) ?_ | refine stop ?_)
  all_goals refine Stop.mk ?_
  refine call_fn [] (of_fn _ i.op) rfl trivial (by decide) ?_
  rintro sv H' G' ⟨rfl, rfl, rfl⟩ -
  refine ⟨Nat.le_of_ble_eq_true rfl, ?_⟩
  rw [hw1, hw2, hw3]
  all_goals
    have hzi := @eIns_zero i regs more _ _ _ _ e1 e2 e3 e4 h3.1
    simp only [Bool.false_eq_true, false_implies, true_implies, true_and] at hzi
    rw [e1, e2, e3]
    repeat' ((fail_if_success with_reducible refine Stop.mk ?_); (conv => whnf); with_reducible first | refine br_t ?_ | refine br_f ?_ | refine br_nn ?_ | refine br_ns ?_ | refine br_not ?_ | refine br_d (fun h => ?_) (fun h => ?_) | refine br_e (fun h => ?_) (fun h => ?_) | refine br_n (fun h => ?_) (fun h => ?_) | refine drw_fast (by kernel_rfl) ?_ | refine chk (by kernel_rfl) ?_ | refine stop ?_)
    all_goals refine Stop.mk ?_
    refine call_fn [] (srcInstr_fn _ i regs) rfl trivial (by decide) ?_
    rintro sv H' G' ⟨rfl, rfl⟩ -
    refine ⟨Nat.le_of_ble_eq_true rfl, ?_⟩
    generalize eIns regs i = e at *
    repeat' ((fail_if_success with_reducible refine Stop.mk ?_); (conv => whnf); with_reducible first | refine br_t ?_ | refine br_f ?_ | refine br_nn ?_ | refine br_ns ?_ | refine br_not ?_ | refine br_d (fun h => ?_) (fun h => ?_) | refine br_e (fun h => ?_) (fun h => ?_) | refine br_n (fun h => ?_) (fun h => ?_) | refine drw_fast (by kernel_rfl) ?_ | refine chk (by kernel_rfl) ?_ | refine stop ?_)
    all_goals refine Stop.mk ?_
  all_goals try
    rw [hw4]
    obtain ⟨hzi1, hzi2⟩ := hzi (by omega)
    refine call_fn [] (srcInstr_fn _ i (regs + more)) rfl trivial (by decide) ?_
    rintro sv H' G' ⟨rfl, rfl⟩ -
    refine ⟨Nat.le_of_ble_eq_true rfl, ?_⟩
    rw [hzi2]
    repeat' ((fail_if_success with_reducible refine Stop.mk ?_); (conv => whnf); first | with_reducible refine br_t ?_ | with_reducible refine br_f ?_ | with_reducible refine br_nn ?_ | with_reducible refine br_ns ?_ | with_reducible refine br_not ?_ | ((with_reducible refine br_d (fun h => ?_) (fun h => ?_)) <;> try (exfalso; omega)) | ((with_reducible refine br_e (fun h => ?_) (fun h => ?_)) <;> try (exfalso; omega)) | ((with_reducible refine br_n (fun h => ?_) (fun h => ?_)) <;> try (exfalso; omega)) | with_reducible refine drw_fast (by kernel_rfl) ?_ | with_reducible refine chk (by kernel_rfl) ?_ | with_reducible refine stop ?_)
    all_goals refine Stop.mk ?_
  all_goals try (exfalso; omega)
  all_goals
    refine call_fn [] (srcTerm_fn _ t regs blocks) rfl trivial (by decide) ?_
    rintro sv H' G' ⟨rfl, rfl⟩ -
    refine ⟨Nat.le_of_ble_eq_true rfl, ?_⟩
    generalize eTrm regs blocks t = et at *
    repeat' ((fail_if_success with_reducible refine Stop.mk ?_); (conv => whnf); with_reducible first | refine br_t ?_ | refine br_f ?_ | refine br_nn ?_ | refine br_ns ?_ | refine br_not ?_ | refine br_d (fun h => ?_) (fun h => ?_) | refine br_e (fun h => ?_) (fun h => ?_) | refine br_n (fun h => ?_) (fun h => ?_) | refine drw_fast (by kernel_rfl) ?_ | refine chk (by kernel_rfl) ?_ | refine stop ?_)
    all_goals refine Stop.mk ?_
  all_goals try exact fin_id hE 0 rfl rfl rfl rfl ⟨rfl, rfl⟩
  all_goals
    have hz1 := hz (by omega)
    have hgr1 := hgr (by omega)
    refine call_fn [] (srcSuccs_fn _ t ht) rfl trivial (by decide) ?_
    rintro sv H' G' ⟨⟨A1, c1, rfl, hsu⟩, rfl⟩ -
    refine ⟨Nat.le_of_ble_eq_true rfl, ?_⟩
    repeat' ((fail_if_success with_reducible refine Stop.mk ?_); (conv => whnf); with_reducible first | refine br_t ?_ | refine br_f ?_ | refine br_nn ?_ | refine br_ns ?_ | refine br_not ?_ | refine br_d (fun h => ?_) (fun h => ?_) | refine br_e (fun h => ?_) (fun h => ?_) | refine br_n (fun h => ?_) (fun h => ?_) | refine drw_fast (by kernel_rfl) ?_ | refine chk (by kernel_rfl) ?_ | refine stop ?_)
    all_goals refine Stop.mk ?_
  all_goals clear hz hgr hzi
  all_goals
    have hlen : (succs t).length ≤ 2 := by unfold succs; (repeat' split) <;> simp
    have hrange : ∀ x ∈ succs t, 0 ≤ x ∧ x < blocks := by
      intro x hx
      unfold succs at hx
      split at hx
      · simp at hx; omega
      · split at hx
        · simp at hx; omega
        · simp at hx
    refine loop_gc hE [0, 1] rfl rfl ?_
    (conv => whnf)
    refine loop_vars follows [] (α := Nat) (fun j => [(17, .v (.int .i64 j))]) (fun _ => [.cells 23 [.v (.int .i64 i.op), .v (.int .i64 i.d), .v (.int .i64 i.a), .v (.int .i64 i.b), .v (.int .i64 i.imm)], .cells 25 [.v (.int .i64 t.kind), .v (.int .i64 t.a), .v (.int .i64 t.to_), .v (.int .i64 t.els)]]) (fun _ => _) (fun j => j ≤ (succs t).length) (fun j => (succs t).length - j) 0
      (Nat.zero_le _) rfl rfl ?_ ?_
    ·
      refine ⟨?_⟩
      (conv => whnf)
      (repeat' (first | exact trivial | exact .inl rfl | exact .inr rfl | refine And.intro ?_ ?_))
    intro j hj
    have hw6 : IntKind.i64.wrap ((j : Int) + 1) = ((j + 1 : Nat) : Int) := by rw [i64_in (by omega) (by omega)]; simp
    repeat' ((fail_if_success with_reducible refine Stop.mk ?_); (conv => whnf); with_reducible first | refine br_t ?_ | refine br_f ?_ | refine br_nn ?_ | refine br_ns ?_ | refine br_not ?_ | refine br_d (fun h => ?_) (fun h => ?_) | refine br_e (fun h => ?_) (fun h => ?_) | refine br_n (fun h => ?_) (fun h => ?_) | refine drw_fast (by kernel_rfl) ?_ | refine chk (by kernel_rfl) ?_ | refine stop ?_)
    all_goals refine Stop.mk ?_
    ·
      obtain ⟨_, hs_, hat_⟩ := hsu.at (sz := 1) rfl
      refine ⟨⟨by omega, by omega⟩, _, hs_, fun ad had => ?_⟩
      obtain ⟨x, cells, hx, hRx, hGx⟩ := hat_ j (by omega) ad (by first | exact had | (rw [Int.toNat_natCast] at had; exact had))
      clear had hat_ hs_
      obtain ⟨rfl, hx1⟩ := hRx
      have hxr := hrange x (List.mem_of_getElem? hx)
      repeat' ((fail_if_success with_reducible refine Stop.mk ?_); (conv => whnf); with_reducible first | refine br_t ?_ | refine br_f ?_ | refine br_nn ?_ | refine br_ns ?_ | refine br_not ?_ | refine br_d (fun h => ?_) (fun h => ?_) | refine br_e (fun h => ?_) (fun h => ?_) | refine br_n (fun h => ?_) (fun h => ?_) | refine drw_fast (by kernel_rfl) ?_ | refine chk (by kernel_rfl) ?_ | refine stop ?_)
      all_goals refine Stop.mk ?_
      refine ⟨_, hGx 0 _ rfl, ?_⟩
      repeat' ((fail_if_success with_reducible refine Stop.mk ?_); (conv => whnf); first | with_reducible refine br_t ?_ | with_reducible refine br_f ?_ | with_reducible refine br_nn ?_ | with_reducible refine br_ns ?_ | with_reducible refine br_not ?_ | ((with_reducible refine br_d (fun h => ?_) (fun h => ?_)) <;> try (exfalso; omega)) | ((with_reducible refine br_e (fun h => ?_) (fun h => ?_)) <;> try (exfalso; omega)) | ((with_reducible refine br_n (fun h => ?_) (fun h => ?_)) <;> try (exfalso; omega)) | with_reducible refine drw_fast (by kernel_rfl) ?_ | with_reducible refine chk (by kernel_rfl) ?_ | with_reducible refine stop ?_)
      all_goals refine Stop.mk ?_
      obtain ⟨_, hs_, hat_⟩ := hsu.at (sz := 1) rfl
      refine ⟨⟨by omega, by omega⟩, _, hs_, fun ad had => ?_⟩
      obtain ⟨y, cells, hy, hRy, hGy⟩ := hat_ j (by omega) ad (by first | exact had | (rw [Int.toNat_natCast] at had; exact had))
      clear had hat_ hs_
      obtain ⟨rfl, hy1⟩ := hRy
      have hyr := hrange y (List.mem_of_getElem? hy)
      repeat' ((fail_if_success with_reducible refine Stop.mk ?_); (conv => whnf); with_reducible first | refine br_t ?_ | refine br_f ?_ | refine br_nn ?_ | refine br_ns ?_ | refine br_not ?_ | refine br_d (fun h => ?_) (fun h => ?_) | refine br_e (fun h => ?_) (fun h => ?_) | refine br_n (fun h => ?_) (fun h => ?_) | refine drw_fast (by kernel_rfl) ?_ | refine chk (by kernel_rfl) ?_ | refine stop ?_)
      all_goals refine Stop.mk ?_
      refine ⟨_, hGy 0 _ rfl, ?_⟩
      repeat' ((fail_if_success with_reducible refine Stop.mk ?_); (conv => whnf); first | with_reducible refine br_t ?_ | with_reducible refine br_f ?_ | with_reducible refine br_nn ?_ | with_reducible refine br_ns ?_ | with_reducible refine br_not ?_ | ((with_reducible refine br_d (fun h => ?_) (fun h => ?_)) <;> try (exfalso; omega)) | ((with_reducible refine br_e (fun h => ?_) (fun h => ?_)) <;> try (exfalso; omega)) | ((with_reducible refine br_n (fun h => ?_) (fun h => ?_)) <;> try (exfalso; omega)) | with_reducible refine drw_fast (by kernel_rfl) ?_ | with_reducible refine chk (by kernel_rfl) ?_ | with_reducible refine stop ?_)
      all_goals refine Stop.mk ?_
      rw [hw6]
      refine tell_here ⟨j + 1, by omega, by show (succs t).length - (j + 1) < (succs t).length - j; omega, rfl, rfl, ?_⟩
      refine ⟨?_⟩
      (conv => whnf)
      (repeat' (first | exact trivial | exact .inl rfl | exact .inr rfl | refine And.intro ?_ ?_))
    · rw [hw4, hw5]
      refine call_fn [] (srcTerm_fn _ t (regs + more) (blocks + more)) rfl trivial (by decide) ?_
      rintro sv H' G' ⟨rfl, rfl⟩ -
      refine ⟨Nat.le_of_ble_eq_true rfl, ?_⟩
      rw [hgr1]
      repeat' ((fail_if_success with_reducible refine Stop.mk ?_); (conv => whnf); first | with_reducible refine br_t ?_ | with_reducible refine br_f ?_ | with_reducible refine br_nn ?_ | with_reducible refine br_ns ?_ | with_reducible refine br_not ?_ | ((with_reducible refine br_d (fun h => ?_) (fun h => ?_)) <;> try (exfalso; omega)) | ((with_reducible refine br_e (fun h => ?_) (fun h => ?_)) <;> try (exfalso; omega)) | ((with_reducible refine br_n (fun h => ?_) (fun h => ?_)) <;> try (exfalso; omega)) | with_reducible refine drw_fast (by kernel_rfl) ?_ | with_reducible refine chk (by kernel_rfl) ?_ | with_reducible refine stop ?_)
      all_goals refine Stop.mk ?_
      all_goals try (exfalso; omega)
      refine fin_id hE 0 rfl rfl rfl rfl ⟨congrArg (fun b => SV.v (.bool b)) ?_, rfl⟩
      have hs : succs t = if t.kind = 1 then [t.to_] else if t.kind = 2 then [t.to_, t.els] else [] := rfl
      rcases hz1 with ⟨hk, _⟩ | ⟨hk, _⟩ | hk
      · rw [hs, hk]; rfl
      · rw [hs, hk]; rfl
      · rw [hs, hk]; rfl
theorem sgrows_fn (G : Gh) (i : Ins) (t : Trm) (regs blocks more : Int) (hi : i.ok) (ht : t.ok) (h1 : 0 ≤ regs ∧ regs < 65536) (h2 : 0 ≤ blocks ∧ blocks < 65536) (h3 : 0 ≤ more ∧ more < 256) :
    Ct Try.prog 3 [i.sv, t.sv, .v (.int .u16 regs), .v (.int .u16 blocks), .v (.int .u8 more)] [] G fun sv H' G' => sv = .v (.bool true) ∧ H' = [] := by
  rcases shape_of i.op with ⟨e1, e2, e3, e4⟩ | ⟨e1, e2, e3, e4⟩ | ⟨e1, e2, e3, e4⟩ | ⟨e1, e2, e3, e4⟩ | ⟨e1, e2, e3, e4⟩
  · exact sgrows_fn0 G i t regs blocks more e1 e2 e3 e4 hi ht h1 h2 h3
  · exact sgrows_fn1 G i t regs blocks more e1 e2 e3 e4 hi ht h1 h2 h3
  · exact sgrows_fn2 G i t regs blocks more e1 e2 e3 e4 hi ht h1 h2 h3
  · exact sgrows_fn3 G i t regs blocks more e1 e2 e3 e4 hi ht h1 h2 h3
  · exact sgrows_fn4 G i t regs blocks more e1 e2 e3 e4 hi ht h1 h2 h3
end Go.Proofs.Ytenogjjendoapaa.Cu
